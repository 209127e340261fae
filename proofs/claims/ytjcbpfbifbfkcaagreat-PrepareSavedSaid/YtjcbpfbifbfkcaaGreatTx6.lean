import Derived.Test.YtjcbpfbifbfkcaaGreatTx2
import Derived.Shelf.SlSortCmp.WholeK
import Derived.Test.YtjcbpfbifbfkcaaGreatTx0
import Derived.Shelf.SlLaysF0
import Derived.Test.YtjcbpfbifbfkcaaGreatRows
import Derived.Test.YtjcbpfbifbfkcaaGreatTx1
import Derived.Shelf.SlSortCmp.NoneTotal
import Derived.Shelf.Abstract
set_option linter.unusedSimpArgs false
set_option linter.unusedVariables false
set_option maxRecDepth 100000
set_option maxHeartbeats 60000000
namespace Go.Proofs.YtjcbpfbifbfkcaaGreat
open Go.RowKit Go.Lib Go.Shelf Go.Sort
theorem Hp.setCells {B : Nat} {w0 : World} {b : Nat} {t : TypeId} {n : Nat} {L : List Blk} (vs : List Value) : ∀ (w : World) (off : Nat) (l : List Value), Hp B w0 w (⟨b, l, t, n⟩ :: L) →
  Hp B w0 (w.setCells b off vs) (⟨b, spl l off vs, t, n⟩ :: L) := by
 induction vs with
 | nil => intro w off l h; exact h
 | cons v vs ih =>
  intro w off l h
  rw [World.setCells]
  have h1 := h.setCell (i := 0) rfl off v
  exact ih _ _ _ h1
theorem zfv (F G : Array Value) (h : F.size = G.size) : setMany F 0 G.toList = G := by
 refine ext_get! (by simp [h]) fun t ht => ?_
 have ht' : t < G.size := by simpa [h] using ht
 rw [get_setMany _ _ _ t (by omega), if_pos (by simp [ht'])]
 simp [ht']
theorem ze7 {α : Type} [Inhabited α] (enc : α → List Value) (k : Nat) (hk : ∀ x, (enc x).length = k) (d : Array α) : (flatK enc k d).toList = d.toList.flatMap enc := by
 have hlen : (d.toList.flatMap enc).length = d.size * k := by rw [ZE enc k hk]; simp
 apply List.ext_getElem?
 intro j
 rcases Nat.lt_or_ge j (d.size * k) with hj | hj
 ·have k0 : 0 < k := Nat.pos_of_ne_zero (fun h => by subst h; simp at hj)
  have h1 : j / k < d.size := by rw [Nat.div_lt_iff_lt_mul k0]; exact hj
  have h2 : j % k < k := Nat.mod_lt _ k0
  have e1 : d.toList[j / k]? = some d[j / k]! := by rw [getElem!_pos d _ h1]; simp [h1]
  have e2 : (enc d[j / k]!)[j % k]? = some (enc d[j / k]!)[j % k]! := by
   have h3 : j % k < (enc d[j / k]!).length := by rw [hk]; exact h2
   rw [getElem!_pos (enc d[j / k]!) (j % k) h3]; exact List.getElem?_eq_getElem _
  have := zcT enc k hk d.toList (j / k) (j % k) _ _ e1 e2
  rw [Nat.mul_comm, Nat.div_add_mod] at this
  rw [this, ← get_flatK enc k d j hj, getElem!_pos _ j (by simpa using hj)]
  simp [hj]
 ·rw [List.getElem?_eq_none (by simpa using hj), List.getElem?_eq_none (by omega)]
theorem Hp.holdsK {α : Type} [Inhabited α] {enc : α → List Value} {k : Nat} (hk : ∀ x, (enc x).length = k) {d : Array α} {B : Nat} {w0 w : World} {b : Nat} {t : TypeId} {n : Nat} {L : List Blk} (hp : Hp B w0 w (⟨b, d.toList.flatMap enc, t, n⟩ :: L)) :
  HoldsK enc k w b 0 d := by
 intro j hj
 have hl : (d.toList.flatMap enc)[j]? = some (id (flatK enc k d)[j]!) := by
  rw [← ze7 enc k hk d, getElem!_pos _ j hj]; simp [id]
 rw [Nat.zero_add]
 exact ⟨hp.cell (i := 0) rfl hl, hp.free (i := 0) rfl _⟩
theorem Hp.sorted {α : Type} [Inhabited α] {enc : α → List Value} {k : Nat} (hk : ∀ x, (enc x).length = k) {d d' : Array α} {B : Nat} {w0 w : World} {b : Nat} {t : TypeId} {n m : Nat} {os : Array Obj} {L : List Blk} (hp : Hp B w0 w (⟨b, d.toList.flatMap enc, t, n⟩ :: L)) (hs : d'.size = d.size) :
  Hp B w0 (sortWorldK enc k w b 0 m d' os) (⟨b, d'.toList.flatMap enc, t, n⟩ :: L) := by
 have h1 : Hp B w0 (Sort.ahead w m) (⟨b, d.toList.flatMap enc, t, n⟩ :: L) := hp.drewN m
 have h2 := Hp.holdsK hk h1
 have e : putRowK enc k (Sort.ahead w m) b 0 d' = (Sort.ahead w m).setCells b 0 (d'.toList.flatMap enc) := by
  have h3 := setCells_putRow (Sort.ahead w m) b 0 (flatK enc k d').toList 0 (flatK enc k d) (by simp [hs])
  rw [putRow_self id _ b 0 _ h2, zfv _ _ (by simp [hs]), ze7 enc k hk d'] at h3
  exact h3.symm
 have h4 := Hp.setCells (d'.toList.flatMap enc) _ 0 _ h1
 rw [zhA _ _ (by rw [ZE enc k hk, ZE enc k hk]; simp [hs]), ← e] at h4
 unfold sortWorldK
 refine h4.call ⟨rfl, rfl, rfl, by simp, fun k hk => ?_⟩
 show (_ ++ os)[k]? = _
 rw [Array.getElem?_append_left hk]
theorem zgY {α : Type} [Inhabited α] {d d' : Array α} (h : PermIn 0 d.size d d') : d'.size = d.size ∧ d'.toList.Perm d.toList := by
 obtain ⟨h1, _, h2⟩ := h
 refine ⟨h1, ?_⟩
 have e1 : d'.extract 0 d.size = d' := by rw [← h1]; simp
 rw [e1] at h2
 simpa using h2
theorem ze1 {α : Type} [Inhabited α] {lt : α → α → Bool} {d : Array α} {n : Nat} (hn : d.size = n) (h : SortedIn lt 0 n d) : d.toList.Pairwise fun x y => lt y x = false := by
 rw [List.pairwise_iff_getElem]
 intro i j hi hj hij
 have := h i j (Nat.zero_le _) hij (by simpa [hn] using hj)
 have hi' : i < d.size := by simpa using hi
 have hj' : j < d.size := by simpa using hj
 rw [getElem!_pos d i hi', getElem!_pos d j hj'] at this
 simpa using this
open Go.Shelf Go.Proofs
def zdE : Go.Shelf.Ren := ⟨fun | 6 => 145 | 15 => 192 | 14 => 191 | 28 => 232 | 29 => 233 | 20 => 224 | 21 => 225 | 22 => 226 | 23 => 227 | 24 => 228 | 25 => 229 | 26 => 230 | 27 => 231 | 46 => 253 | 47 => 254 | 48 => 255 | 49 => 256 | 50 => 257 | 57 => 277 | n => n, fun | 22 => 62 | 24 => 146 | 25 => 202 | 3 => 3 | 39 => 226 | 0 => 0 | 53 => 271 | 55 => 210 | 4 => 4 | 46 => 265 | 45 => 264 | 50 => 159 | 5 => 5 | 9 => 9 | 66 => 297 | 70 => 208 | 76 => 320 | 77 => 321 | n => n, fun | n => n⟩
theorem zdU : Go.Proofs.SlLaysF0.n6 Tryz.prog zdE := {
 mixed := by kernel_rfl
 f6 := ⟨Tryz.f145.name, by decide, Tryz.func145.trans (congrArg some (by kernel_rfl))⟩
 f14 := ⟨Tryz.f191.name, by decide, Tryz.func191.trans (congrArg some (by kernel_rfl))⟩
 f15 := Tryz.func192.trans (congrArg some (by kernel_rfl))
 f20 := ⟨Tryz.f224.name, by decide, Tryz.func224.trans (congrArg some (by kernel_rfl))⟩
 f21 := ⟨Tryz.f225.name, by decide, Tryz.func225.trans (congrArg some (by kernel_rfl))⟩
 f22 := ⟨Tryz.f226.name, by decide, Tryz.func226.trans (congrArg some (by kernel_rfl))⟩
 f23 := ⟨Tryz.f227.name, by decide, Tryz.func227.trans (congrArg some (by kernel_rfl))⟩
 f24 := ⟨Tryz.f228.name, by decide, Tryz.func228.trans (congrArg some (by kernel_rfl))⟩
 f25 := ⟨Tryz.f229.name, by decide, Tryz.func229.trans (congrArg some (by kernel_rfl))⟩
 f26 := ⟨Tryz.f230.name, by decide, Tryz.func230.trans (congrArg some (by kernel_rfl))⟩
 f27 := ⟨Tryz.f231.name, by decide, Tryz.func231.trans (congrArg some (by kernel_rfl))⟩
 f28 := Tryz.func232.trans (congrArg some (by kernel_rfl))
 f29 := Tryz.func233.trans (congrArg some (by kernel_rfl))
 f46 := ⟨Tryz.f253.name, by decide, Tryz.func253.trans (congrArg some (by kernel_rfl))⟩
 f47 := Tryz.func254.trans (congrArg some (by kernel_rfl))
 f48 := Tryz.func255.trans (congrArg some (by kernel_rfl))
 f49 := ⟨Tryz.f256.name, by decide, Tryz.func256.trans (congrArg some (by kernel_rfl))⟩
 f50 := ⟨Tryz.f257.name, by decide, Tryz.func257.trans (congrArg some (by kernel_rfl))⟩
 f57 := ⟨Tryz.f277.name, by decide, Tryz.func277.trans (congrArg some (by kernel_rfl))⟩
 t0 := Tryz.underlying0
 a0 := Tryz.isAgg0
 z0 := Tryz.sizeOf0
 v0 := Tryz.zeroValue0
 t3 := Tryz.underlying3
 a3 := Tryz.isAgg3
 z3 := Tryz.sizeOf3
 v3 := Tryz.zeroValue3
 t4 := Tryz.underlying4
 a4 := Tryz.isAgg4
 z4 := Tryz.sizeOf4
 v4 := Tryz.zeroValue4
 t5 := Tryz.underlying5
 a5 := Tryz.isAgg5
 z5 := Tryz.sizeOf5
 v5 := Tryz.zeroValue5
 t9 := Tryz.underlying9
 a9 := Tryz.isAgg9
 z9 := Tryz.sizeOf9
 v9 := Tryz.zeroValue9
 t22 := Tryz.underlying62
 a22 := Tryz.isAgg62
 z22 := Tryz.sizeOf62
 v22 := Tryz.zeroValue62
 t25 := Tryz.underlying202
 a25 := Tryz.isAgg202
 z25 := Tryz.sizeOf202
 v25 := Tryz.zeroValue202
 t39 := Tryz.underlying226
 a39 := Tryz.isAgg226
 z39 := Tryz.sizeOf226
 v39 := Tryz.zeroValue226
 t45 := Tryz.underlying264
 a45 := Tryz.isAgg264
 z45 := Tryz.sizeOf264
 v45 := Tryz.zeroValue264
 t46 := Tryz.underlying265
 a46 := Tryz.isAgg265
 z46 := Tryz.sizeOf265
 v46 := Tryz.zeroValue265
 t50 := Tryz.underlying159
 a50 := Tryz.isAgg159
 z50 := Tryz.sizeOf159
 v50 := Tryz.zeroValue159
 t53 := Tryz.underlying271
 a53 := Tryz.isAgg271
 z53 := Tryz.sizeOf271
 v53 := Tryz.zeroValue271
 t55 := Tryz.underlying210
 a55 := Tryz.isAgg210
 z55 := Tryz.sizeOf210
 v55 := Tryz.zeroValue210
 t66 := Tryz.underlying297
 a66 := Tryz.isAgg297
 z66 := Tryz.sizeOf297
 v66 := Tryz.zeroValue297
 t70 := Tryz.underlying208
 a70 := Tryz.isAgg208
 z70 := Tryz.sizeOf208
 v70 := Tryz.zeroValue208
 t76 := Tryz.underlying320
 a76 := Tryz.isAgg320
 z76 := Tryz.sizeOf320
 v76 := Tryz.zeroValue320
 t77 := Tryz.underlying321
 a77 := Tryz.isAgg321
 z77 := Tryz.sizeOf321
 v77 := Tryz.zeroValue321 }
open Go.RowKit Go.Lib Go.Shelf Go.Sort
instance : Inhabited Bl := ⟨⟨0, 0⟩⟩
def zla (x y : Bl) : Int := zfg x.p y.p
theorem zma (x y : Bl) : ltOf zla x y = decide (x.p < y.p) := by unfold ltOf zla; simp only [zkw]
theorem zmu : SWO (ltOf zla) where
 irrefl x := by rw [zma]; simp
 trans x y z h1 h2 := by rw [zma] at *; simp at *; omega
 ntrans x y z h1 h2 := by rw [zma] at *; simp at *; omega
theorem zlT (x : Bl) (v : Value) (hv : v ∈ blV x) : v.oneCell' = true := by simp [blV] at hv; rcases hv with rfl | rfl <;> rfl
def zd5 (g : Nat) : Prop := ∀ (x y : Bl) (W : World), Calls Tryz.prog g #[.agg #[.int .i64 x.p, .int .i64 x.o], .agg #[.int .i64 y.p, .int .i64 y.o]] W fun e w' => e = .returned (.int .i64 (zfg x.p y.p)) ∧ ∃ q os', w' = Sort.grow (W.drewN q) os'
def zmB (w : World) (B : Nat) (w0 : World) (L : List Blk) (blk t n : Nat) (d : List Bl) (e : Ending) (w' : World) : Prop :=
 e = .returned (.tuple #[]) ∧ ∃ s : List Bl, s.Perm d ∧ s.Pairwise (fun x y => x.p ≤ y.p) ∧ Hp B w0 w' (⟨blk, s.flatMap blV, t, n⟩ :: L)
theorem zkq (g : Nat) (eg : ∀ args w, (callFunc g args).run Tryz.prog w = .ok (.enter g args) w) (hg : zd5 g) (d : List Bl) (cap : Nat) {B : Nat} {w0 w : World} {blk t n : Nat} {L : List Blk} (hp : Hp B w0 w (⟨blk, d.flatMap blV, t, n⟩ :: L)) (hsz : d.length ≤ 5000) :
  Calls Tryz.prog 145 #[.slice (some ⟨blk, 0, none⟩) d.length cap, .func (.func g) #[] #[]] w (zmB w B w0 L blk t n d) := by
 have hH : HoldsK blV 2 w blk 0 d.toArray := Hp.holdsK (enc := blV) zbn (d := d.toArray) hp
 have hcm : CmpLays Tryz.prog g #[] blV 2 zla blk 0 d.toArray.size w := fun m os dk _ x y => hg x y _
 have hcon := AnyQ.slices_SortFunc zdU 2 Tryz.isAgg146 Tryz.sizeOf146 blV zbn zlT zla zmu g #[] blk 0 cap d.toArray w eg hcm hH (hp.lt (p := ⟨blk, d.flatMap blV, t, n⟩) (by simp)).2 (by simp; omega)
 change Calls Tryz.prog 145 _ _ _ at hcon
 rw [List.size_toArray] at hcon
 refine hcon.mono ?_
 rintro e w' ⟨rfl, d', m, os, h1, h2, rfl⟩
 have h3 := zgY (d := d.toArray) (d' := d') (by rw [List.size_toArray]; exact h1)
 refine ⟨rfl, d'.toList, by simpa using h3.2, ?_, Hp.sorted (enc := blV) zbn (d := d.toArray) hp h3.1⟩
 have h4 := ze1 (by simpa using h3.1) h2
 refine h4.imp (fun {a b} h => ?_)
 rw [zma] at h
 simp at h
 exact h
theorem ze2 (p : Option Addr) (cap : Nat) (fv : Value) (w : World) : Calls Tryz.prog 145 #[.slice p 0 cap, fv] w fun e w' => e = .returned (.tuple #[]) ∧ w' = w := by
 have hcon := AnyF.slices_SortFunc_none zdU p cap fv w
 change Calls Tryz.prog 145 _ _ _ at hcon
 exact hcon
def zir (B : Nat) (w0 : World) (v : Value) (n : Nat) (d : List Bl) (M : List Blk) (e : Ending) (w' : World) : Prop :=
 e = .returned (.tuple #[]) ∧ ∃ (s : List Bl) (R : List Blk), s.Perm d ∧ s.Pairwise (fun x y => x.p ≤ y.p) ∧ zy 146 2 v n (s.flatMap blV) R ∧ Hp B w0 w' (R ++ M)
theorem zje (g : Nat) (eg : ∀ args w, (callFunc g args).run Tryz.prog w = .ok (.enter g args) w) (hg : zd5 g) (d : List Bl) {v : Value} {R M : List Blk} (hr : zy 146 2 v d.length (d.flatMap blV) R) {B : Nat} {w0 w : World} (hp : Hp B w0 w (R ++ M)) (hsz : d.length ≤ 5000) :
  Calls Tryz.prog 145 #[v, .func (.func g) #[] #[]] w (zir B w0 v d.length d M) := by
 obtain ⟨hl, ⟨h0, hv, hx, hR⟩ | ⟨b, cap, hv, h1, h2, hR⟩⟩ := hr
 ·subst hv; subst hR
  have hd : d = [] := List.eq_nil_of_length_eq_zero h0
  subst hd
  refine (ze2 none 0 _ w).mono ?_
  rintro e w' ⟨rfl, rfl⟩
  exact ⟨rfl, [], [], List.Perm.refl _, List.Pairwise.nil, zy.nil _ _, hp⟩
 ·subst hv; subst hR
  refine (zkq g eg hg d cap hp hsz).mono ?_
  rintro e w' ⟨rfl, s, h3, h4, hp'⟩
  exact ⟨rfl, s, _, h3, h4, ⟨by rw [ZE blV 2 zbn, h3.length_eq], .inr ⟨b, cap, rfl, h1, h2, rfl⟩⟩, hp'⟩
open Go.RowKit
open Go.RowKit
theorem Hp.less {B : Nat} {w0 w : World} {b n : Nat} {l1 l2 : List Value} {t : TypeId} {L : List Blk} (h : Hp B w0 w (⟨b, l1 ++ l2, t, n⟩ :: L)) : Hp B w0 w (⟨b, l1, t, n⟩ :: L) := by
 refine ⟨h.below, h.size, by simpa using h.nodup, fun p hp => ?_⟩
 rcases List.mem_cons.1 hp with rfl | hp
 ·obtain ⟨h1, c, h2, h3, h4⟩ := h.own _ (List.mem_cons_self ..)
  refine ⟨h1, c, h2, h3, ?_⟩
  simp only at h4 ⊢
  have := congrArg (List.take l1.length) h4
  rw [List.take_take, List.length_append, Nat.min_eq_left (by omega), List.take_append_of_le_length (Nat.le_refl _), List.take_length] at this
  exact this
 ·exact h.own p (List.mem_cons_of_mem _ hp)
theorem zy.cons {e : TypeId} {c n : Nat} {v : Value} {xs : List Value} {R : List Blk} (h : zy e c v (n + 1) xs R) : ∃ g cap, v = .slice (some ⟨g, 0, none⟩) (n + 1) cap ∧ n + 1 ≤ cap ∧ cap ≤ maxLen ∧ R = [⟨g, xs, e, cap * c⟩] := by
 obtain ⟨_, ⟨h0, _⟩ | h⟩ := h
 ·omega
 ·exact h
def LtB (a b : Bl) : Prop := a.o < b.o ∨ (a.o = b.o ∧ a.p < b.p)
theorem LtB.ntrans {a b c : Bl} (h1 : ¬ LtB b a) (h2 : ¬ LtB c b) : ¬ LtB c a := by unfold LtB at *; omega
def gB (l : List Bl) (k : Nat) : Bl := l.getD k ⟨0, 0⟩
def zli (l : List Bl) (n i0 : Nat) : Prop := ∀ k c, i0 ≤ k → (c = 2 * k + 1 ∨ c = 2 * k + 2) → c < n → ¬ LtB (gB l c) (gB l k)
def zjA (l : List Bl) (n i0 j : Nat) : Prop :=
 (∀ k c, i0 ≤ k → k ≠ j → (c = 2 * k + 1 ∨ c = 2 * k + 2) → c < n → ¬ LtB (gB l c) (gB l k)) ∧
 (∀ p c, i0 ≤ p → (j = 2 * p + 1 ∨ j = 2 * p + 2) → (c = 2 * j + 1 ∨ c = 2 * j + 2) → c < n → ¬ LtB (gB l c) (gB l p))
theorem zjA.start {l : List Bl} {n i0 : Nat} (h : zli l n (i0 + 1)) : zjA l n i0 i0 :=
 ⟨fun k c hk hne hc hn => h k c (by omega) hc hn, fun p c hp hj _ _ => by omega⟩
structure zld (l l' : List Bl) (n i0 j : Nat) : Prop where
 perm : l'.Perm l
 same : ∀ q, n ≤ q → gB l' q = gB l q
 heap : zli l n (i0 + 1) → zjA l' n i0 j
theorem zld.start (l : List Bl) (n i0 : Nat) : zld l l n i0 i0 := ⟨List.Perm.refl _, fun _ _ => rfl, zjA.start⟩
open Go.RowKit Go.Shelf
open Go.RowKit Go.Shelf
def hv (p o : Int) : Nat → List Bl
 | 0 => []
 | n + 1 => hv p o n ++ [⟨p + pw (o - n - 1), o - n - 1⟩]
theorem zjZ (p o : Int) : ∀ n, (hv p o n).length = n
 | 0 => rfl
 | n + 1 => by rw [hv, List.length_append, zjZ p o n]; rfl
structure zg9 (want : Int) (fs : List Bl) (b : Bl) : Prop where
 mem : b ∈ fs
 great : want ≤ b.o
 least : ∀ y ∈ fs, want ≤ y.o → ¬ LtB y b
structure zlU (want : Int) (fs : List Bl) (b : Bl) (s : List Bl) : Prop where
 perm : (b :: s).Perm (fs ++ hv b.p b.o (b.o - want).toNat)
 sort : s.Pairwise fun x y => x.p ≤ y.p
def zgm (want : Int) (l : List Bl) : List Bl := l.filter fun b => decide (want ≤ b.o)
def zjK (want : Int) (l : List Bl) : List Bl := l.filter fun b => !decide (want ≤ b.o)
theorem zkf (want : Int) (l : List Bl) : (zgm want l ++ zjK want l).Perm l := List.filter_append_perm _ l
def zbp (want : Int) (fs : List Bl) (b : Bl) (i : Nat) (l : List Bl) : Prop := (b :: l).Perm (zgm want fs ++ hv b.p b.o i)
theorem zbp.start {want : Int} {fs l l' : List Bl} (hp : l.Perm (zgm want fs)) (h : (l' ++ [gB l 0]).Perm l) : zbp want fs (gB l 0) 0 l' := by
 unfold zbp
 rw [hv, List.append_nil]
 exact (List.perm_append_comm (l₁ := [gB l 0])).trans (h.trans hp)
theorem zbp.step {want : Int} {fs l l' : List Bl} {b : Bl} {i : Nat} (h : zbp want fs b i l) (hp : l'.Perm (l ++ [⟨b.p + pw (b.o - i - 1), b.o - i - 1⟩])) : zbp want fs b (i + 1) l' := by
 unfold zbp at *
 rw [hv, ← List.append_assoc]
 exact (hp.cons b).trans (h.append_right [_])
theorem zbp.len {want : Int} {fs l : List Bl} {b : Bl} {i : Nat} (h : zbp want fs b i l) : l.length + 1 = (zgm want fs).length + i := by
 have := h.length_eq
 rw [List.length_append, zjZ, List.length_cons] at this
 exact this
theorem zbp.done {want : Int} {fs l s : List Bl} {b : Bl} (h : zbp want fs b (b.o - want).toNat l) (hs : s.Perm (l ++ zjK want fs)) (hso : s.Pairwise fun x y => x.p ≤ y.p) : zlU want fs b s := by
 refine ⟨?_, hso⟩
 refine (hs.cons b).trans ?_
 rw [← List.cons_append]
 refine (h.append_right _).trans ?_
 rw [List.append_assoc]
 refine (List.perm_append_comm.append_left _).trans ?_
 rw [← List.append_assoc]
 exact (zkf want fs).append_right _
open Go.RowKit Go.Lib Go.Shelf Go.Sort
theorem zC.three {B : Nat} {w0 w : World} {L : List Blk} (h : Hp B w0 w L) {i j k : Nat} {p q r : Blk} (hi : L[i]? = some p) (hj : L[j]? = some q) (hk : L[k]? = some r) : zC B w0 [p, q, r] w := ⟨L, h, fun s hs => by
 rcases List.mem_cons.1 hs with rfl | hs
 ·exact Hp.mem hi
 ·rcases List.mem_cons.1 hs with rfl | hs
  ·exact Hp.mem hj
  ·rw [List.mem_singleton.1 hs]; exact Hp.mem hk⟩
open Go.RowKit
theorem Hp.sub {B : Nat} {w0 w : World} {L L' : List Blk} (hp : Hp B w0 w L) (h : L'.Sublist L) : Hp B w0 w L' :=
 ⟨hp.below, hp.size, (h.map _).nodup hp.nodup, fun p hpL => hp.own p (h.subset hpL)⟩
open Go.RowKit
def ziL (w : World) (b : Nat) (q r : Int) : Prop := ∀ (j : Nat) v, [Value.int .i64 q, .int .i64 r][j]? = some v → w.cell? ⟨b, 0 + j, none⟩ = some v
theorem ziL.below {w w' : World} {b : Nat} {q r : Int} (h : ziL w b q r) (hb : b < w.heap.size) (hw : Below w.heap.size w w') : ziL w' b q r := fun j v hj => (hw.cell (p := ⟨b, 0 + j, none⟩) hb).trans (h j v hj)
def zjF (l : List Bl) (v : Bl) (r : Int) : Prop := (r = -1 ∧ v ∉ l) ∨ ∃ j : Nat, r = j ∧ l[j]? = some v
def zdF (l : List Bl) : Prop := l.Pairwise fun x y => x.p + pw x.o ≤ y.p
theorem zbB.disj {od : Int} {l : List Bl} (h : zbB od l) : zdF l := by
 unfold zdF
 rw [List.pairwise_iff_getElem]
 intro i j hi hj hij
 exact ((h j _ (List.getElem?_eq_getElem hj)).2 i _ hij (List.getElem?_eq_getElem hi)).1
theorem zdF.sorted {l : List Bl} (h : zdF l) : zfp l := by
 intro i j x y hij hx hy
 unfold zdF at h
 rw [List.pairwise_iff_getElem] at h
 obtain ⟨hi, rfl⟩ := List.getElem?_eq_some_iff.1 hx
 obtain ⟨hj, rfl⟩ := List.getElem?_eq_some_iff.1 hy
 have := h i j hi hj hij
 have := zK l[i].o
 omega
theorem zdF.apart {l : List Bl} (h : zdF l) {x y : Bl} (hx : x ∈ l) (hy : y ∈ l) (hne : x ≠ y) : ¬ zbK x y := by
 obtain ⟨i, hi, rfl⟩ := List.getElem_of_mem hx
 obtain ⟨j, hj, rfl⟩ := List.getElem_of_mem hy
 unfold zdF at h
 rw [List.pairwise_iff_getElem] at h
 rintro ⟨m1, m2⟩
 rcases Nat.lt_trichotomy i j with hij | hij | hij
 ·have := h i j hi hj hij; omega
 ·subst hij; exact hne rfl
 ·have := h j i hj hi hij; omega
theorem zdF.sub {l k : List Bl} (h : zdF l) (hs : k.Sublist l) : zdF k := List.Pairwise.sublist hs h
def zan (l : List Bl) (v : Bl) : List Bl := l.filter fun x => decide (x ≠ v)
theorem zcY (l : List Bl) (v : Bl) : (zan l v).Sublist l := List.filter_sublist
theorem zfp.nodup {l : List Bl} (h : zfp l) : l.Nodup := by
 unfold List.Nodup
 rw [List.pairwise_iff_getElem]
 intro i j hi hj hij he
 have := h i j _ _ hij (List.getElem?_eq_getElem hi) (List.getElem?_eq_getElem hj)
 rw [he] at this; omega
theorem zet {l : List Bl} {v : Bl} {j : Nat} (hn : l.Nodup) (hj : l[j]? = some v) : l.eraseIdx j = zan l v := by
 induction l generalizing j with
 | nil => simp at hj
 | cons x l ih =>
  obtain ⟨h1, h2⟩ := List.nodup_cons.1 hn
  cases j with
  | zero =>
   simp at hj; subst hj
   rw [List.eraseIdx_cons_zero]
   unfold zan
   rw [List.filter_cons_of_neg (by simp)]
   exact (List.filter_eq_self.2 (fun a ha => by simp; intro h; subst h; exact h1 ha)).symm
  | succ j =>
   rw [List.getElem?_cons_succ] at hj
   rw [List.eraseIdx_cons_succ, ih h2 hj]
   unfold zan
   rw [List.filter_cons_of_pos (by simp; intro h; subst h; exact h1 (List.mem_of_getElem? hj))]
def zb6 : List Bl → Bl → List Bl
 | [], b => [b]
 | x :: r, b => if b.p < x.p then b :: x :: r else x :: zb6 r b
theorem zac (l : List Bl) (b : Bl) : (zb6 l b).Perm (b :: l) := by
 induction l with
 | nil => exact List.Perm.refl _
 | cons x r ih =>
  unfold zb6
  split
  ·exact List.Perm.refl _
  ·exact (ih.cons x).trans (List.Perm.swap _ _ _)
theorem zjr {l : List Bl} {b : Bl} {k : Nat} (hk : AtB l b.p k) (hne : ∀ y ∈ l, y.p ≠ b.p) : l.take k ++ b :: l.drop k = zb6 l b := by
 induction l generalizing k with
 | nil =>
  have : k = 0 := by have := hk.1; simpa using this
  subst this; rfl
 | cons x r ih =>
  unfold zb6
  cases k with
  | zero =>
   have h1 := hk.2.2 0 x rfl (Nat.le_refl _)
   have h2 := hne x (by simp)
   rw [if_pos (by omega)]; rfl
  | succ k =>
   have h1 := hk.2.1 0 x rfl (by omega)
   rw [if_neg (by omega), List.take_succ_cons, List.drop_succ_cons, List.cons_append, ih (k := k) ⟨by have := hk.1; simpa using this, fun j y hj hjk => hk.2.1 (j + 1) y (by simpa using hj) (by omega), fun j y hj hjk => hk.2.2 (j + 1) y (by simpa using hj) (by omega)⟩ (fun y hy => hne y (by simp [hy]))]
def zbq (b : Bl) : Bl := ⟨min b.p (ZV b).p, b.o + 1⟩
def zfH (od : Int) : Nat → List Bl → Bl → List Bl × Bl
 | 0, l, b => (l, b)
 | n + 1, l, b => if b.o < od ∧ ZV b ∈ l then zfH od n (zan l (ZV b)) (zbq b) else (l, b)
theorem zjX {o od : Int} (h0 : 0 ≤ o) (h1 : o ≤ od) (h8 : od ≤ 8) : pw od % pw o = 0 := by
 rcases za5 h0 (by omega) with rfl | rfl | rfl | rfl | rfl | rfl | rfl | rfl | rfl <;>
 rcases za5 (o := od) (by omega) h8 with rfl | rfl | rfl | rfl | rfl | rfl | rfl | rfl | rfl <;> first | decide | omega
theorem zbw {od : Int} {b : Bl} (h : za4 od b) (h8 : od ≤ 8) (ho : b.o < od) : (ZV b = ⟨b.p + pw b.o, b.o⟩ ∧ b.p % (2 * pw b.o) = 0 ∧ b.p + 2 * pw b.o ≤ pw od) ∨ (ZV b = ⟨b.p - pw b.o, b.o⟩ ∧ 0 ≤ b.p - pw b.o ∧ (b.p - pw b.o) % (2 * pw b.o) = 0) := by
 obtain ⟨h1, h2, h3, h4, h5⟩ := h
 have hd := zjX (o := b.o + 1) (by omega) (by omega) h8
 rw [zaM h1] at hd
 generalize pw od = E at h4 hd ⊢
 obtain ⟨p, o⟩ := b
 simp only at *
 unfold ZV
 simp only
 by_cases hc : p % (2 * pw o) = 0
 ·left
  rw [if_pos hc]
  refine ⟨rfl, hc, ?_⟩
  rcases za5 h1 (by omega) with rfl | rfl | rfl | rfl | rfl | rfl | rfl | rfl | rfl
  all_goals
   simp only [pw, Int.reduceToNat, Int.reducePow, Int.reduceMul] at h4 h5 hd hc ⊢
   omega
 ·right
  rw [if_neg hc]
  refine ⟨rfl, ?_, ?_⟩
  all_goals
   rcases za5 h1 (by omega) with rfl | rfl | rfl | rfl | rfl | rfl | rfl | rfl | rfl
   all_goals
    simp only [pw, Int.reduceToNat, Int.reducePow, Int.reduceMul] at h4 h5 hd hc ⊢
    omega
theorem zfa {od : Int} {b : Bl} (h : za4 od b) (h8 : od ≤ 8) (ho : b.o < od) : za4 od (zbq b) := by
 have hp := zK b.o
 have hs := zaM h.1
 unfold zbq za4
 simp only
 rw [hs]
 rcases zbw h h8 ho with ⟨ht, h1, h2⟩ | ⟨ht, h1, h2⟩
 ·rw [ht]; simp only
  rw [show min b.p (b.p + pw b.o) = b.p by omega]
  exact ⟨by have := h.1; omega, by omega, h.2.2.1, by omega, h1⟩
 ·rw [ht]; simp only
  rw [show min b.p (b.p - pw b.o) = b.p - pw b.o by omega]
  have := h.end_le
  exact ⟨by have := h.1; omega, by omega, h1, by omega, h2⟩
theorem zfx {od : Int} {b x : Bl} (h : za4 od b) (h8 : od ≤ 8) (ho : b.o < od) (hm : zbK x (zbq b)) : zbK x b ∨ zbK x (ZV b) := by
 have hp := zK b.o
 have hs := zaM h.1
 have hx := zK x.o
 obtain ⟨m1, m2⟩ := hm
 unfold zbq at m1 m2
 simp only at m1 m2
 rw [hs] at m1
 unfold zbK
 rcases zbw h h8 ho with ⟨ht, h1, h2⟩ | ⟨ht, h1, h2⟩
 ·rw [ht] at m1 m2 ⊢; simp only at m1 m2 ⊢; omega
 ·rw [ht] at m1 m2 ⊢; simp only at m1 m2 ⊢; omega
structure zdL (od : Int) (l : List Bl) (b : Bl) : Prop where
 disj : zdF l
 may : za4 od b
 free : ∀ x ∈ l, ¬ zbK x b
theorem zdL.step {od : Int} {l : List Bl} {b : Bl} (h : zdL od l b) (h8 : od ≤ 8) (ho : b.o < od) (hm : ZV b ∈ l) : zdL od (zan l (ZV b)) (zbq b) := by
 refine ⟨h.disj.sub (zcY _ _), zfa h.may h8 ho, fun x hx hmm => ?_⟩
 obtain ⟨h1, h2⟩ := List.mem_filter.1 hx
 rcases zfx h.may h8 ho hmm with h3 | h3
 ·exact h.free x h1 h3
 ·exact h.disj.apart h1 hm (by simpa using h2) h3
theorem zdL.ne {od : Int} {l : List Bl} {b : Bl} (h : zdL od l b) : ∀ y ∈ l, y.p ≠ b.p := fun y hy he => h.free y hy ⟨by have := zK b.o; omega, by have := zK y.o; omega⟩
theorem ziT {od : Int} {n : Nat} {l : List Bl} {b : Bl} (h : ¬ (b.o < od ∧ ZV b ∈ l)) : zfH od n l b = (l, b) := by
 cases n with
 | zero => rfl
 | succ n => rw [zfH, if_neg h]
def zjT (od : Int) (fs : List Bl) (b : Bl) : List Bl := zb6 (zfH od (od - b.o).toNat fs b).1 (zfH od (od - b.o).toNat fs b).2
open Go.RowKit
theorem zeo : (Tryz.prog.info? 146).map (·.size) = some 2 := by kernel_rfl
open Go.RowKit Go.Lib
theorem zm.part {B : Nat} {w0 w : World} {g t n j : Nat} {xs : List Value} {M : List Blk} (hp : Hp B w0 w (⟨g, xs, t, n⟩ :: M)) : zm w (some ⟨g, j, none⟩) (xs.drop j) := fun q v hq => ⟨g, j, rfl, hp.cell at0 (by rw [List.getElem?_drop] at hq; exact hq)⟩
open Go.RowKit
theorem zm.box {w : World} {b : Nat} {q r : Int} (h : zm w (some ⟨b, 0, none⟩) [.int .i64 q, .int .i64 r]) : ziL w b q r := fun j v hj => by
 obtain ⟨b', off', he, hc⟩ := h j v hj
 injection he with he; injection he with e1 e2; subst e1; subst e2; exact hc
theorem zjF.no {l : List Bl} {v : Bl} {r : Int} (h : zjF l v r) (hn : v ∉ l) : r = -1 := by
 rcases h with ⟨h, _⟩ | ⟨j, _, hj⟩
 ·exact h
 ·exact absurd (List.mem_of_getElem? hj) hn
def zhE (od : Int) (fs : List Bl) (b0 : Bl) (k : Nat) (l : List Bl) (b : Bl) : Prop := zdL od l b ∧ zfH od (od - b0.o).toNat fs b0 = zfH od k l b ∧ l.length ≤ 600 ∧ k = (od - b.o).toNat
theorem zhE.done {od : Int} {fs : List Bl} {b0 b : Bl} {k : Nat} {l : List Bl} (h : zhE od fs b0 k l b) (hn : ¬ (b.o < od ∧ ZV b ∈ l)) {i : Nat} (hi : AtB l b.p i) : l.take i ++ b :: l.drop i = zjT od fs b0 := by
 rw [zjr hi h.1.ne]
 unfold zjT
 rw [h.2.1, ziT hn]
def zlD (w : World) (M : List Blk) (a : Option Addr) (xs : List Value) : Prop := ∀ (w1 : World) (L : List Blk), Hp w.heap.size w w1 L → (∀ p ∈ M, p ∈ L) → zm w1 a xs
theorem zlD.at {w w1 : World} {M L : List Blk} {a : Option Addr} {xs : List Value} (h : zlD w M a xs) (hp : Hp w.heap.size w w1 L) (hm : ∀ p ∈ M, p ∈ L) : zm w1 a xs := h w1 L hp hm
end Go.Proofs.YtjcbpfbifbfkcaaGreat
