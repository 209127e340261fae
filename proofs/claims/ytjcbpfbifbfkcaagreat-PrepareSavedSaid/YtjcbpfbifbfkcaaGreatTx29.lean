import Derived.Test.YtjcbpfbifbfkcaaGreatTx23
import Derived.Test.YtjcbpfbifbfkcaaGreatTx19
import Derived.Test.YtjcbpfbifbfkcaaGreatTx28
set_option linter.unusedSimpArgs false
set_option linter.unusedVariables false
set_option maxRecDepth 100000
set_option maxHeartbeats 60000000
namespace Go.Proofs.YtjcbpfbifbfkcaaGreat
open Go.RowKit
theorem zm5 {ty : TypeId} (h : zx Tryz.prog ty = true := by with_reducible first | exact zn | exact Zy | exact zX | exact zB) : zx Tryz.prog ty = true := h
theorem zkK {ty : TypeId} {l : List Value} {n : Nat} (h : zbz Tryz.prog ty = some (l, n) := by with_reducible first | exact Zz | exact ZA | exact zZ) : zbz Tryz.prog ty = some (l, n) := h
theorem zm0 {ty : TypeId} {k : Nat} (h : Z6 Tryz.prog ty k = true := by with_reducible first | exact zk | exact zF | exact zr) : Z6 Tryz.prog ty k = true := h
def kE (n : Nat) : List Env := (List.range n).map fun (j : Nat) => En ((j : Int) + 1)
theorem zam (n : Nat) : (kE n).length = n := by simp [kE]
theorem zkT (j : Nat) (h : j < 3) (a : Option Addr) (c : Nat) : zaT ⟨0, 0, 0, im3, a, kE j, c⟩ ⟨2, 0, 0, 0, ⟨#[]⟩, ⟨(j : Int) + 1, 0, 0, 0, ⟨0, 0, 0, 0, 0, 0, 0⟩⟩, none, [], 0⟩ = (0, ⟨0, 0, 0, im3, a, kE (j + 1), c⟩) := by
 match j, h with
 | 0, _ => exact zev (by kernel_rfl) rfl (by kernel_rfl) (by kernel_rfl) rfl
 | 1, _ => exact zev (by kernel_rfl) rfl (by kernel_rfl) (by kernel_rfl) rfl
 | 2, _ => exact zev (by kernel_rfl) rfl (by kernel_rfl) (by kernel_rfl) rfl
theorem zkG (j : Nat) (h : j < 3) (a : Option Addr) (c : Nat) (w : World) (ha : zm w a ((kE j).flatMap zQ)) : Calls Tryz.prog 19 #[.agg #[.int .i64 0, .int .i64 0, .int .i64 0, .string im3, .slice a j c], .agg #[.int .i64 2, .int .i64 0, .int .i64 0, .int .i64 0, .string ⟨#[]⟩, .int .i64 ((j : Int) + 1), .int .i64 0, .int .i64 0, .int .i64 0, .int .i64 0, .int .i64 0, .int .i64 0, .int .i64 0, .int .i64 0, .int .i64 0, .int .i64 0, .slice none 0 0]] w fun e w' => ∃ a c R, e = .returned (.tuple #[.agg #[.int .i64 0, .int .i64 0, .int .i64 0, .string im3, .slice a (j + 1) c], .int .i64 0]) ∧ j + 1 ≤ c ∧ zw 38 11 (.slice a (j + 1) c) (j + 1) ((kE (j + 1)).flatMap zQ) R ∧ Hp w.heap.size w w' R :=
 zh0 0 0 0 im3 a (kE j) j c (zam j) 2 0 0 0 ⟨#[]⟩ ((j : Int) + 1) 0 0 0 0 0 0 0 0 0 0 none [] 0 0 rfl 0 0 0 im3 (kE (j + 1)) (j + 1) (zam _) _ _ (zkT j h a c) (by omega) zeQ (by decide) (by decide) zb9 w ha (zm.nil _ _)
def zkz (w : World) (n : Nat) (e : Ending) (w' : World) : Prop := ∃ a c R, e = .returned (.agg #[.int .i64 0, .int .i64 0, .int .i64 0, .string im3, .slice a n c]) ∧ n ≤ c ∧ zaa R (fun w => zm w a ((kE n).flatMap zQ)) ∧ Hp w.heap.size w w' R
theorem zl0 (n : Nat) (hn : n ≤ 3) (w : World) : Calls Tryz.prog 73 #[.int .i64 n] w (zkz w n) := by
 have hp := Hp.start w
 go_enter Tryz.func73, Tryz.ntmps73
 go_wp2_with (first | (go_at_call 64; (with_reducible refine (zjM _).mono ?_); rintro e w1 ⟨rfl, hb⟩; replace hp := hp.call hb; clear hb) | go_skip | ((first | ((refine zf _ rfl ?_); refine lZ hp rfl zkK ?_; clear hp; intro b w1 hp) | ((refine ze _ _ rfl ?_); refine lA hp rfl (za rfl) zk zW ?_) | ((refine zd _ _ _ rfl ?_); (first | refine sA hp rfl (za rfl) (za rfl) zk zW ?_ | refine sG hp rfl (za rfl) (za rfl) zk zW ?_); clear hp; intro w1 hp; simp only [spl, z0a, z0b] at hp)); simp only [zc, zb, z0b, z0a]))
 obtain ⟨b3, hb3⟩ := hp.id0
 obtain ⟨b2, hb2⟩ := hp.id1
 subst hb3 hb2
 go_loopg [5] n (fun k i wr => ∃ (j : Nat) (a : Option Addr) (c : Nat) (R : List Blk), k + j = n ∧ i = .int .i64 ((j : Int) + 1) ∧ Hid (j ≤ c) ∧ Hid (zaa R fun w => zm w a ((kE j).flatMap zQ)) ∧ Hp w.heap.size w wr (⟨b3, [.int .i64 0, .int .i64 0, .int .i64 0, .string im3, .slice a j c], 28, 5⟩ :: ⟨b2, [.int .i64 0, .int .i64 0, .int .i64 0, .string ⟨#[]⟩, .slice none 0 0], 28, 5⟩ :: R))
 case atStart => exact ⟨0, none, 0, [], by omega, rfl, z0j (Nat.le_refl _), z0j (zaa.none_ (fun w => zm.nil _ _) _), hp⟩
 case round =>
  clear hp
  obtain ⟨j, a, c, R, hkj, rfl, HC, HK, hp⟩ := hrel
  by_cases hlt : j < n
  ·have HJ3 : Hid (j < 3) := z0j (by omega)
   have e1 : decide ((j : Int) + 1 ≤ (n : Int)) = true := by simp; omega
   go_wp2_with (first | (go_at_call 19; (with_reducible refine (zkG j HJ3.out _ _ _ (HK.out.at hp (fun p hm => by simp [hm]))).mono ?_); rintro e w1 ⟨aN, cN, RN, rfl, hcn, hrn, hpn⟩; replace hp := hp.join hpn; have HKN := z0j hrn.keptS; have HCN := z0j hcn; clear hpn hrn hcn; simp only [z0f, z0e, z0i] at hp) | go_skip | ((first | ((refine zf _ rfl ?_); refine lZ hp rfl zkK ?_; clear hp; intro b w1 hp) | ((refine ze _ _ rfl ?_); refine lA hp rfl (za rfl) zk zW ?_) | ((refine zd _ _ _ rfl ?_); (first | refine sA hp rfl (za rfl) (za rfl) zk zW ?_ | refine sG hp rfl (za rfl) (za rfl) zk zW ?_); clear hp; intro w1 hp; simp only [spl, z0a, z0b] at hp)); simp only [zc, zb, z0b, z0a]))
   go_roundg (gk - 1)
   case measure => omega
   case rel => exact ⟨j + 1, aN, cN, RN, by omega, by go_num, HCN, HKN, hp.kp⟩
  ·obtain rfl : j = n := by omega
   have e1 : decide ((j : Int) + 1 ≤ (j : Int)) = false := by simp; omega
   go_wp2_with (first | go_skip | ((first | ((refine zf _ rfl ?_); refine lZ hp rfl zkK ?_; clear hp; intro b w1 hp) | ((refine ze _ _ rfl ?_); refine lA hp rfl (za rfl) zk zW ?_) | ((refine zd _ _ _ rfl ?_); (first | refine sA hp rfl (za rfl) (za rfl) zk zW ?_ | refine sG hp rfl (za rfl) (za rfl) zk zW ?_); clear hp; intro w1 hp; simp only [spl, z0a, z0b] at hp)); simp only [zc, zb, z0b, z0a]))
   exact bodyPost_ret (ZI (rs := [.cell 2 28]) Tryz.results73 (.cell rfl (hp.loadAgg zk at1 0 _ (by rfl) (by rfl)) .nil)) rfl ⟨a, c, R, rfl, HC.out, HK.out, hp.kp⟩
theorem zih (n : Nat) (h : n ≤ 3) (a : Option Addr) (c : Nat) : okC ⟨0, 0, 0, im3, a, kE n, c⟩ = true := by
 match n, h with
 | 0, _ => exact zcx (by kernel_rfl) rfl
 | 1, _ => exact zcx (by kernel_rfl) rfl
 | 2, _ => exact zcx (by kernel_rfl) rfl
 | 3, _ => exact zcx (by kernel_rfl) rfl
theorem zbX (n : Nat) (h : n ≤ 3) (a : Option Addr) (c : Nat) : Kv.Small ⟨0, 0, 0, im3, a, kE n, c⟩ := ⟨by simp only [zam]; omega, zeQ⟩
open Go.RowKit
theorem zcR {fr : Int} (h0 : 0 ≤ fr) (h1 : fr ≤ 2000000000) : ∀ {l : List Env} {q : Nat}, q + l.length ≤ 100000 → (∀ e ∈ l, I64 e.nu) → zaB fr q l = true → ∀ (i : Nat) (h : i < l.length), l[i].nu = fr + 1 + (q + i : Nat)
 | [], _, _, _, _, i, h => by simp at h
 | e :: r, q, hq, hn, hf, i, h => by
  unfold zaB at hf
  rw [Bool.and_eq_true, decide_eq_true_eq] at hf
  obtain ⟨h2, h3⟩ := hf
  obtain ⟨g1, g2⟩ := hn e (by simp)
  simp only [z0g] at hq
  have e1 : e.nu = fr + 1 + (q : Int) := by unfold wrap64 at h2; omega
  cases i with
  | zero => simp only [List.getElem_cons_zero]; omega
  | succ i =>
   have h4 := zcR h0 h1 (l := r) (q := q + 1) (by omega) (fun x hx => hn x (by simp [hx])) h3 i (by simpa using h)
   simp only [List.getElem_cons_succ]
   rw [h4]; push_cast; omega
def joinF (x : Kv) (l : List Env) : List Env := l.filter fun e => decide (zO x < e.nu)
noncomputable def zaA (x : Kv) (n : Int) (l : List Env) : Bool := okC x && (decide (0 ≤ n) && (decide (n ≤ zO x) && zaB n 0 l))
theorem zaC {x : Kv} {n : Int} {l : List Env} (h : zaA x n l = true) : okC x = true ∧ 0 ≤ n ∧ n ≤ zO x ∧ zaB n 0 l = true := by
 unfold zaA at h
 simp only [Bool.and_eq_true, decide_eq_true_eq] at h
 exact h
theorem zcs {x : Kv} {n : Int} {l : List Env} (h : zaA x n l = true) (hl : l.length ≤ 100000) (hn : ∀ e ∈ l, I64 e.nu) : joinF x l = l.drop (zO x - n).toNat := by
 obtain ⟨h1, h2, h3, h4⟩ := zaC h
 have hf := Ze h1
 have hk : zO x ≤ 2000000000 := by unfold zO; omega
 have hnu := zcR h2 (by omega) (q := 0) (by omega) hn h4
 unfold joinF
 conv => lhs; rw [← List.take_append_drop (zO x - n).toNat l]
 rw [List.filter_append]
 have e1 : (l.take (zO x - n).toNat).filter (fun e => decide (zO x < e.nu)) = [] := by
  rw [List.filter_eq_nil_iff]
  intro e he
  obtain ⟨i, hi, rfl⟩ := List.getElem_of_mem he
  rw [List.length_take] at hi
  rw [List.getElem_take, decide_eq_true_eq, hnu i (by omega)]
  omega
 have e2 : (l.drop (zO x - n).toNat).filter (fun e => decide (zO x < e.nu)) = l.drop (zO x - n).toNat := by
  rw [List.filter_eq_self]
  intro e he
  obtain ⟨i, hi, rfl⟩ := List.getElem_of_mem he
  rw [List.length_drop] at hi
  rw [List.getElem_drop, decide_eq_true_eq, hnu _ (by omega)]
  omega
 rw [e1, e2, List.nil_append]
def zjC (e : Env) : Rv := ⟨2, 0, 0, 0, ⟨#[]⟩, e, none, [], 0⟩
def zcH (x : Kv) (l : List Env) : Kv := ⟨x.vw, x.nm, x.bs, x.im, x.ea, x.es ++ l, x.ec⟩
theorem zjp {x : Kv} {e : Env} (h : okC x = true) (he : e.nu = zO x + 1) : zaT x (zjC e) = (if okC (zcH x [e]) = true then (0, zcH x [e]) else (141, x)) := by
 have hf := Ze h
 have hfol : zaB (zO x) 0 [e] = true := by
  unfold zaB zaB
  rw [he]
  have : wrap64 (wrap64 (zO x + 1 - 1) - ((0 : Nat) : Int)) = zO x := by unfold zO wrap64; omega
  rw [this]; simp
 have hm : ZW x (zjC e) = (0, zcH x [e]) := by
  unfold ZW zjC zcH
  simp only
  rw [if_neg (by omega), if_neg (by omega), if_pos trivial, if_pos hfol]
 unfold zaT Zh
 rw [if_pos h, hm]
 simp only [if_true]
theorem zez (x : Kv) (l : List Env) : zO (zcH x l) = zO x + l.length := by
 unfold zO zcH; simp only [List.length_append]; push_cast; omega
theorem zib {x : Kv} {n : Int} {l : List Env} (h : zaA x n l = true) (hl : l.length ≤ 100000) (hn : ∀ e ∈ l, I64 e.nu) (i : Nat) (hi : i < (joinF x l).length) : (joinF x l)[i].nu = zO (zcH x ((joinF x l).take i)) + 1 := by
 obtain ⟨h1, h2, h3, h4⟩ := zaC h
 have hf := Ze h1
 have hk : zO x ≤ 2000000000 := by unfold zO; omega
 have hnu := zcR h2 (by omega) (q := 0) (by omega) hn h4
 have hd := zcs h hl hn
 rw [zez, List.length_take]
 have e1 : (joinF x l)[i] = l[(zO x - n).toNat + i]'(by rw [hd, List.length_drop] at hi; omega) := by
  simp only [hd]; rw [List.getElem_drop]
 rw [e1, hnu]
 push_cast; omega
theorem zgq {x : Kv} {n : Int} {l : List Env} (h : zaA x n l = true) (hl : l.length ≤ 100000) (hn : ∀ e ∈ l, I64 e.nu) (hok : okC (zcH x (joinF x l)) = true) :
  zaA (zcH x (joinF x l)) n l = true ∧ joinF (zcH x (joinF x l)) l = [] ∧ zO (zcH x (joinF x l)) = max (zO x) (n + l.length) := by
 obtain ⟨h1, h2, h3, h4⟩ := zaC h
 have hd := zcs h hl hn
 have hlast : zO (zcH x (joinF x l)) = max (zO x) (n + l.length) := by
  rw [zez, hd, List.length_drop]; omega
 have hb : zaA (zcH x (joinF x l)) n l = true := by
  unfold zaA
  rw [hok, h4, hlast, decide_eq_true h2, decide_eq_true (by omega)]; rfl
 refine ⟨hb, ?_, hlast⟩
 rw [zcs hb hl hn, hlast]
 exact List.drop_eq_nil_of_le (by omega)
end Go.Proofs.YtjcbpfbifbfkcaaGreat
