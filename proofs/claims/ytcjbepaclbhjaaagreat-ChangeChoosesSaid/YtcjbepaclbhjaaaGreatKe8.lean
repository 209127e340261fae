/- Parts of the proof. -/
import Derived.Test.YtcjbepaclbhjaaaGreatKe1
import Derived.Shelf.SlSortCmp.WholeK
import Derived.Test.YtcjbepaclbhjaaaGreatKe0
import Derived.Shelf.SlLaysF0
import Derived.Test.YtcjbepaclbhjaaaGreatRows
import Derived.Test.YtcjbepaclbhjaaaGreatKe2
import Derived.Shelf.SlSortCmp.NoneTotal
import Derived.Shelf.Abstract
import Derived.Test.YtcjbepaclbhjaaaGreatKe3
open List renaming set_cons_zero → zSet, set_cons_succ → sSet
/- Texts merged: base:Srt lay_YtcjbepaclbhjaaaGreat:KLay buddy:BSort buddy:TS buddy:TQ buddy:THS buddy:TH buddy:TI buddy:TKS buddy:TJ buddy:TK. -/
set_option linter.unusedSimpArgs false
set_option linter.unusedVariables false
namespace Go.Proofs.YtcjbepaclbhjaaaGreat
open Go.RowKit Go.Lib Go.Shelf Go.Sort
theorem Hp.setCells {B : Nat} {w0 : World} {b : Nat} {t : TypeId} {n : Nat} {L : List Blk} (vs : List Value) : ∀ (w : World) (off : Nat) (l : List Value), Hp B w0 w (⟨b, l, t, n⟩ :: L) →
    Hp B w0 (w.setCells b off vs) (⟨b, spl l off vs, t, n⟩ :: L) := by
  induction vs with
  | nil => intro w off l h; exact h
  | cons v vs ih =>
    intro w off l h
    rw [World.setCells]
    have h1 := h.setCell (i := 0) rfl off v
    exact ih _ _ _ h1
theorem setMany_all (F G : Array Value) (h : F.size = G.size) : setMany F 0 G.toList = G := by
  refine ext_get! (by simp [h]) fun t ht => ?_
  have ht' : t < G.size := by simpa [h] using ht
  rw [get_setMany _ _ _ t (by omega), if_pos (by simp [ht'])]
  simp [ht']
theorem flat_list {α : Type} [Inhabited α] (enc : α → List Value) (k : Nat) (hk : ∀ x, (enc x).length = k) (d : Array α) : (flatK enc k d).toList = d.toList.flatMap enc := by
  have hlen : (d.toList.flatMap enc).length = d.size * k := by rw [flat_len enc k hk]; simp
  apply List.ext_getElem?
  intro j
  rcases Nat.lt_or_ge j (d.size * k) with hj | hj
  · have k0 : 0 < k := by rcases Nat.eq_zero_or_pos k with h | h; · subst h; simp at hj
                          · exact h
    have h1 : j / k < d.size := by rw [Nat.div_lt_iff_lt_mul k0]; exact hj
    have h2 : j % k < k := Nat.mod_lt _ k0
    have e1 : d.toList[j / k]? = some d[j / k]! := by rw [getElem!_pos d _ h1]; simp [h1]
    have e2 : (enc d[j / k]!)[j % k]? = some (enc d[j / k]!)[j % k]! := by
      have h3 : j % k < (enc d[j / k]!).length := by rw [hk]; exact h2
      rw [getElem!_pos (enc d[j / k]!) (j % k) h3]; exact List.getElem?_eq_getElem _
    have := flat_get enc k hk d.toList (j / k) (j % k) _ _ e1 e2
    rw [Nat.mul_comm, Nat.div_add_mod] at this
    rw [this, ← get_flatK enc k d j hj, getElem!_pos _ j (by simpa using hj)]
    simp [hj]
  · rw [List.getElem?_eq_none (by simpa using hj), List.getElem?_eq_none (by omega)]
theorem Hp.holdsK {α : Type} [Inhabited α] {enc : α → List Value} {k : Nat} (hk : ∀ x, (enc x).length = k) {d : Array α} {B : Nat} {w0 w : World} {b : Nat} {t : TypeId} {n : Nat} {L : List Blk} (hp : Hp B w0 w (⟨b, d.toList.flatMap enc, t, n⟩ :: L)) :
    HoldsK enc k w b 0 d := by
  intro j hj
  have hl : (d.toList.flatMap enc)[j]? = some (id (flatK enc k d)[j]!) := by
    rw [← flat_list enc k hk d, getElem!_pos _ j hj]; simp [id]
  rw [Nat.zero_add]
  exact ⟨hp.cell (i := 0) rfl hl, hp.free (i := 0) rfl _⟩
theorem Hp.sorted {α : Type} [Inhabited α] {enc : α → List Value} {k : Nat} (hk : ∀ x, (enc x).length = k) {d d' : Array α} {B : Nat} {w0 w : World} {b : Nat} {t : TypeId} {n m : Nat} {os : Array Obj} {L : List Blk} (hp : Hp B w0 w (⟨b, d.toList.flatMap enc, t, n⟩ :: L)) (hs : d'.size = d.size) :
    Hp B w0 (sortWorldK enc k w b 0 m d' os) (⟨b, d'.toList.flatMap enc, t, n⟩ :: L) := by
  have h1 : Hp B w0 (Sort.ahead w m) (⟨b, d.toList.flatMap enc, t, n⟩ :: L) := hp.drewN m
  have h2 := Hp.holdsK hk h1
  have e : putRowK enc k (Sort.ahead w m) b 0 d' = (Sort.ahead w m).setCells b 0 (d'.toList.flatMap enc) := by
    have h3 := setCells_putRow (Sort.ahead w m) b 0 (flatK enc k d').toList 0 (flatK enc k d) (by simp [hs])
    rw [putRow_self id _ b 0 _ h2, setMany_all _ _ (by simp [hs]), flat_list enc k hk d'] at h3
    exact h3.symm
  have h4 := Hp.setCells (d'.toList.flatMap enc) _ 0 _ h1
  rw [spl_all _ _ (by rw [flat_len enc k hk, flat_len enc k hk]; simp [hs]), ← e] at h4
  unfold sortWorldK
  refine h4.call ⟨rfl, rfl, rfl, by simp, fun k hk => ?_⟩
  show (_ ++ os)[k]? = _
  rw [Array.getElem?_append_left hk]
theorem perm_whole {α : Type} [Inhabited α] {d d' : Array α} (h : PermIn 0 d.size d d') : d'.size = d.size ∧ d'.toList.Perm d.toList := by
  obtain ⟨h1, _, h2⟩ := h
  refine ⟨h1, ?_⟩
  have e1 : d'.extract 0 d.size = d' := by rw [← h1]; simp
  rw [e1] at h2
  simpa using h2
theorem sorted_whole {α : Type} [Inhabited α] {lt : α → α → Bool} {d : Array α} {n : Nat} (hn : d.size = n) (h : SortedIn lt 0 n d) : d.toList.Pairwise fun x y => lt y x = false := by
  rw [List.pairwise_iff_getElem]
  intro i j hi hj hij
  have := h i j (Nat.zero_le _) hij (by simpa [hn] using hj)
  have hi' : i < d.size := by simpa using hi
  have hj' : j < d.size := by simpa using hj
  rw [getElem!_pos d i hi', getElem!_pos d j hj'] at this
  simpa using this
end Go.Proofs.YtcjbepaclbhjaaaGreat
namespace Go.Proofs.YtcjbepaclbhjaaaGreat
open Go.Shelf Go.Proofs
def sortBlLays_ren : Go.Shelf.Ren := ⟨fun | 6 => 136 | 15 => 162 | 14 => 161 | 28 => 179 | 29 => 180 | 20 => 171 | 21 => 172 | 22 => 173 | 23 => 174 | 24 => 175 | 25 => 176 | 26 => 177 | 27 => 178 | 46 => 184 | 47 => 185 | 48 => 186 | 49 => 187 | 50 => 188 | 57 => 190 | n => n, fun | 22 => 81 | 24 => 150 | 25 => 176 | 3 => 3 | 39 => 193 | 0 => 0 | 53 => 212 | 55 => 169 | 4 => 4 | 46 => 206 | 45 => 205 | 50 => 197 | 5 => 5 | 9 => 9 | 66 => 216 | 70 => 220 | 76 => 223 | 77 => 224 | n => n, fun | n => n⟩
theorem sortBlLays : Go.Proofs.SlLaysF0.n6 Tryz.prog sortBlLays_ren := {
  mixed := by kernel_rfl
  f6 := ⟨Tryz.f136.name, by decide, Tryz.func136.trans (congrArg some (by kernel_rfl))⟩
  f14 := ⟨Tryz.f161.name, by decide, Tryz.func161.trans (congrArg some (by kernel_rfl))⟩
  f15 := Tryz.func162.trans (congrArg some (by kernel_rfl))
  f20 := ⟨Tryz.f171.name, by decide, Tryz.func171.trans (congrArg some (by kernel_rfl))⟩
  f21 := ⟨Tryz.f172.name, by decide, Tryz.func172.trans (congrArg some (by kernel_rfl))⟩
  f22 := ⟨Tryz.f173.name, by decide, Tryz.func173.trans (congrArg some (by kernel_rfl))⟩
  f23 := ⟨Tryz.f174.name, by decide, Tryz.func174.trans (congrArg some (by kernel_rfl))⟩
  f24 := ⟨Tryz.f175.name, by decide, Tryz.func175.trans (congrArg some (by kernel_rfl))⟩
  f25 := ⟨Tryz.f176.name, by decide, Tryz.func176.trans (congrArg some (by kernel_rfl))⟩
  f26 := ⟨Tryz.f177.name, by decide, Tryz.func177.trans (congrArg some (by kernel_rfl))⟩
  f27 := ⟨Tryz.f178.name, by decide, Tryz.func178.trans (congrArg some (by kernel_rfl))⟩
  f28 := Tryz.func179.trans (congrArg some (by kernel_rfl))
  f29 := Tryz.func180.trans (congrArg some (by kernel_rfl))
  f46 := ⟨Tryz.f184.name, by decide, Tryz.func184.trans (congrArg some (by kernel_rfl))⟩
  f47 := Tryz.func185.trans (congrArg some (by kernel_rfl))
  f48 := Tryz.func186.trans (congrArg some (by kernel_rfl))
  f49 := ⟨Tryz.f187.name, by decide, Tryz.func187.trans (congrArg some (by kernel_rfl))⟩
  f50 := ⟨Tryz.f188.name, by decide, Tryz.func188.trans (congrArg some (by kernel_rfl))⟩
  f57 := ⟨Tryz.f190.name, by decide, Tryz.func190.trans (congrArg some (by kernel_rfl))⟩
  t0 := Tryz.underlying0
  a0 := Tryz.isAgg0
  z0 := Tryz.sizeOf0
  v0 := Tryz.zeroValue0
  t3 := Tryz.underlying3
  a3 := Tryz.isAgg3
  z3 := Tryz.sizeOf3
  v3 := Tryz.zeroValue3
  t4 := Tryz.underlying4
  a4 := Tryz.isAgg4
  z4 := Tryz.sizeOf4
  v4 := Tryz.zeroValue4
  t5 := Tryz.underlying5
  a5 := Tryz.isAgg5
  z5 := Tryz.sizeOf5
  v5 := Tryz.zeroValue5
  t9 := Tryz.underlying9
  a9 := Tryz.isAgg9
  z9 := Tryz.sizeOf9
  v9 := Tryz.zeroValue9
  t22 := Tryz.underlying81
  a22 := Tryz.isAgg81
  z22 := Tryz.sizeOf81
  v22 := Tryz.zeroValue81
  t25 := Tryz.underlying176
  a25 := Tryz.isAgg176
  z25 := Tryz.sizeOf176
  v25 := Tryz.zeroValue176
  t39 := Tryz.underlying193
  a39 := Tryz.isAgg193
  z39 := Tryz.sizeOf193
  v39 := Tryz.zeroValue193
  t45 := Tryz.underlying205
  a45 := Tryz.isAgg205
  z45 := Tryz.sizeOf205
  v45 := Tryz.zeroValue205
  t46 := Tryz.underlying206
  a46 := Tryz.isAgg206
  z46 := Tryz.sizeOf206
  v46 := Tryz.zeroValue206
  t50 := Tryz.underlying197
  a50 := Tryz.isAgg197
  z50 := Tryz.sizeOf197
  v50 := Tryz.zeroValue197
  t53 := Tryz.underlying212
  a53 := Tryz.isAgg212
  z53 := Tryz.sizeOf212
  v53 := Tryz.zeroValue212
  t55 := Tryz.underlying169
  a55 := Tryz.isAgg169
  z55 := Tryz.sizeOf169
  v55 := Tryz.zeroValue169
  t66 := Tryz.underlying216
  a66 := Tryz.isAgg216
  z66 := Tryz.sizeOf216
  v66 := Tryz.zeroValue216
  t70 := Tryz.underlying220
  a70 := Tryz.isAgg220
  z70 := Tryz.sizeOf220
  v70 := Tryz.zeroValue220
  t76 := Tryz.underlying223
  a76 := Tryz.isAgg223
  z76 := Tryz.sizeOf223
  v76 := Tryz.zeroValue223
  t77 := Tryz.underlying224
  a77 := Tryz.isAgg224
  z77 := Tryz.sizeOf224
  v77 := Tryz.zeroValue224 }
end Go.Proofs.YtcjbepaclbhjaaaGreat
namespace Go.Proofs.YtcjbepaclbhjaaaGreat
open Go.RowKit Go.Lib Go.Shelf Go.Sort
instance : Inhabited Bl := ⟨⟨0, 0⟩⟩
def byAt (x y : Bl) : Int := cmpI x.p y.p
theorem ltAt (x y : Bl) : ltOf byAt x y = decide (x.p < y.p) := by unfold ltOf byAt; simp only [cmpI_lt]
theorem swoAt : SWO (ltOf byAt) where
  irrefl x := by rw [ltAt]; simp
  trans x y z h1 h2 := by rw [ltAt] at *; simp at *; omega
  ntrans x y z h1 h2 := by rw [ltAt] at *; simp at *; omega
theorem bl_one (x : Bl) (v : Value) (hv : v ∈ blV x) : v.oneCell' = true := by simp [blV] at hv; rcases hv with rfl | rfl <;> rfl
def Compares (g : Nat) : Prop := ∀ (x y : Bl) (W : World), Calls Tryz.prog g #[.agg #[.int .i64 x.p, .int .i64 x.o], .agg #[.int .i64 y.p, .int .i64 y.o]] W fun e w' => e = .returned (.int .i64 (cmpI x.p y.p)) ∧ ∃ q os', w' = Sort.grow (W.drewN q) os'
def Sorts (w : World) (B : Nat) (w0 : World) (L : List Blk) (blk t n : Nat) (d : List Bl) (e : Ending) (w' : World) : Prop :=
  e = .returned (.tuple #[]) ∧ ∃ s : List Bl, s.Perm d ∧ s.Pairwise (fun x y => x.p ≤ y.p) ∧ Hp B w0 w' (⟨blk, s.flatMap blV, t, n⟩ :: L)
theorem sort136 (g : Nat) (eg : ∀ args w, (callFunc g args).run Tryz.prog w = .ok (.enter g args) w) (hg : Compares g) (d : List Bl) (cap : Nat) {B : Nat} {w0 w : World} {blk t n : Nat} {L : List Blk} (hp : Hp B w0 w (⟨blk, d.flatMap blV, t, n⟩ :: L)) (hsz : d.length ≤ 5000) :
    Calls Tryz.prog 136 #[.slice (some ⟨blk, 0, none⟩) d.length cap, .func (.func g) #[] #[]] w (Sorts w B w0 L blk t n d) := by
  have hH : HoldsK blV 2 w blk 0 d.toArray := Hp.holdsK (enc := blV) blV_len (d := d.toArray) hp
  have hcm : CmpLays Tryz.prog g #[] blV 2 byAt blk 0 d.toArray.size w := fun m os dk _ x y => hg x y _
  have hcon := AnyQ.slices_SortFunc sortBlLays 2 Tryz.isAgg150 Tryz.sizeOf150 blV blV_len bl_one byAt swoAt g #[] blk 0 cap d.toArray w eg hcm hH (hp.lt (p := ⟨blk, d.flatMap blV, t, n⟩) (by simp)).2 (by simp; omega)
  change Calls Tryz.prog 136 _ _ _ at hcon
  rw [List.size_toArray] at hcon
  refine hcon.mono ?_
  rintro e w' ⟨rfl, d', m, os, h1, h2, rfl⟩
  have h3 := perm_whole (d := d.toArray) (d' := d') (by rw [List.size_toArray]; exact h1)
  refine ⟨rfl, d'.toList, by simpa using h3.2, ?_, Hp.sorted (enc := blV) blV_len (d := d.toArray) hp h3.1⟩
  have h4 := sorted_whole (by simpa using h3.1) h2
  refine h4.imp (fun {a b} h => ?_)
  rw [ltAt] at h
  simp at h
  exact h
theorem sort136_none (p : Option Addr) (cap : Nat) (fv : Value) (w : World) : Calls Tryz.prog 136 #[.slice p 0 cap, fv] w fun e w' => e = .returned (.tuple #[]) ∧ w' = w := by
  have hcon := AnyF.slices_SortFunc_none sortBlLays p cap fv w
  change Calls Tryz.prog 136 _ _ _ at hcon
  exact hcon
def OwnSorted (B : Nat) (w0 : World) (v : Value) (n : Nat) (d : List Bl) (M : List Blk) (e : Ending) (w' : World) : Prop :=
  e = .returned (.tuple #[]) ∧ ∃ (s : List Bl) (R : List Blk), s.Perm d ∧ s.Pairwise (fun x y => x.p ≤ y.p) ∧ OwnRow 150 2 v n (s.flatMap blV) R ∧ Hp B w0 w' (R ++ M)
theorem sorto136 (g : Nat) (eg : ∀ args w, (callFunc g args).run Tryz.prog w = .ok (.enter g args) w) (hg : Compares g) (d : List Bl) {v : Value} {R M : List Blk} (hr : OwnRow 150 2 v d.length (d.flatMap blV) R) {B : Nat} {w0 w : World} (hp : Hp B w0 w (R ++ M)) (hsz : d.length ≤ 5000) :
    Calls Tryz.prog 136 #[v, .func (.func g) #[] #[]] w (OwnSorted B w0 v d.length d M) := by
  obtain ⟨hl, ⟨h0, hv, hx, hR⟩ | ⟨b, cap, hv, h1, h2, hR⟩⟩ := hr
  · subst hv; subst hR
    have hd : d = [] := List.eq_nil_of_length_eq_zero h0
    subst hd
    refine (sort136_none none 0 _ w).mono ?_
    rintro e w' ⟨rfl, rfl⟩
    exact ⟨rfl, [], [], List.Perm.refl _, List.Pairwise.nil, OwnRow.nil _ _, hp⟩
  · subst hv; subst hR
    refine (sort136 g eg hg d cap hp hsz).mono ?_
    rintro e w' ⟨rfl, s, h3, h4, hp'⟩
    exact ⟨rfl, s, _, h3, h4, ⟨by rw [flat_len blV 2 blV_len, h3.length_eq], .inr ⟨b, cap, rfl, h1, h2, rfl⟩⟩, hp'⟩
end Go.Proofs.YtcjbepaclbhjaaaGreat
namespace Go.Proofs.YtcjbepaclbhjaaaGreat
open Go.RowKit
end Go.Proofs.YtcjbepaclbhjaaaGreat
namespace Go.Proofs.YtcjbepaclbhjaaaGreat
open Go.RowKit
theorem Hp.less {B : Nat} {w0 w : World} {b n : Nat} {l1 l2 : List Value} {t : TypeId} {L : List Blk} (h : Hp B w0 w (⟨b, l1 ++ l2, t, n⟩ :: L)) : Hp B w0 w (⟨b, l1, t, n⟩ :: L) := by
  refine ⟨h.below, h.size, by simpa using h.nodup, fun p hp => ?_⟩
  rcases List.mem_cons.1 hp with rfl | hp
  · obtain ⟨h1, c, h2, h3, h4⟩ := h.own _ (List.mem_cons_self ..)
    refine ⟨h1, c, h2, h3, ?_⟩
    simp only at h4 ⊢
    have := congrArg (List.take l1.length) h4
    rw [List.take_take, List.length_append, Nat.min_eq_left (by omega), List.take_append_of_le_length (Nat.le_refl _), List.take_length] at this
    exact this
  · exact h.own p (List.mem_cons_of_mem _ hp)
theorem OwnRow.cons {e : TypeId} {c n : Nat} {v : Value} {xs : List Value} {R : List Blk} (h : OwnRow e c v (n + 1) xs R) : ∃ g cap, v = .slice (some ⟨g, 0, none⟩) (n + 1) cap ∧ n + 1 ≤ cap ∧ cap ≤ maxLen ∧ R = [⟨g, xs, e, cap * c⟩] := by
  obtain ⟨_, ⟨h0, _⟩ | h⟩ := h
  · omega
  · exact h
end Go.Proofs.YtcjbepaclbhjaaaGreat
namespace Go.Proofs.YtcjbepaclbhjaaaGreat
def LtB (a b : Bl) : Prop := a.o < b.o ∨ (a.o = b.o ∧ a.p < b.p)
theorem LtB.ntrans {a b c : Bl} (h1 : ¬ LtB b a) (h2 : ¬ LtB c b) : ¬ LtB c a := by unfold LtB at *; omega
def gB (l : List Bl) (k : Nat) : Bl := l.getD k ⟨0, 0⟩
def HeapF (l : List Bl) (n i0 : Nat) : Prop := ∀ k c, i0 ≤ k → (c = 2 * k + 1 ∨ c = 2 * k + 2) → c < n → ¬ LtB (gB l c) (gB l k)
def HeapD (l : List Bl) (n i0 j : Nat) : Prop :=
  (∀ k c, i0 ≤ k → k ≠ j → (c = 2 * k + 1 ∨ c = 2 * k + 2) → c < n → ¬ LtB (gB l c) (gB l k)) ∧
  (∀ p c, i0 ≤ p → (j = 2 * p + 1 ∨ j = 2 * p + 2) → (c = 2 * j + 1 ∨ c = 2 * j + 2) → c < n → ¬ LtB (gB l c) (gB l p))
theorem HeapD.start {l : List Bl} {n i0 : Nat} (h : HeapF l n (i0 + 1)) : HeapD l n i0 i0 :=
  ⟨fun k c hk hne hc hn => h k c (by omega) hc hn, fun p c hp hj _ _ => by omega⟩
structure Downs (l l' : List Bl) (n i0 j : Nat) : Prop where
  perm : l'.Perm l
  same : ∀ q, n ≤ q → gB l' q = gB l q
  heap : HeapF l n (i0 + 1) → HeapD l' n i0 j
theorem Downs.start (l : List Bl) (n i0 : Nat) : Downs l l n i0 i0 := ⟨List.Perm.refl _, fun _ _ => rfl, HeapD.start⟩
end Go.Proofs.YtcjbepaclbhjaaaGreat
namespace Go.Proofs.YtcjbepaclbhjaaaGreat
open Go.RowKit Go.Shelf
end Go.Proofs.YtcjbepaclbhjaaaGreat
namespace Go.Proofs.YtcjbepaclbhjaaaGreat
open Go.RowKit Go.Shelf
end Go.Proofs.YtcjbepaclbhjaaaGreat
namespace Go.Proofs.YtcjbepaclbhjaaaGreat
def hv (p o : Int) : Nat → List Bl
  | 0 => []
  | n + 1 => hv p o n ++ [⟨p + pw (o - n - 1), o - n - 1⟩]
theorem hv_len (p o : Int) : ∀ n, (hv p o n).length = n
  | 0 => rfl
  | n + 1 => by rw [hv, List.length_append, hv_len p o n]; rfl
structure LeastT (want : Int) (fs : List Bl) (b : Bl) : Prop where
  mem : b ∈ fs
  great : want ≤ b.o
  least : ∀ y ∈ fs, want ≤ y.o → ¬ LtB y b
structure TakenP (want : Int) (fs : List Bl) (b : Bl) (s : List Bl) : Prop where
  perm : (b :: s).Perm (fs ++ hv b.p b.o (b.o - want).toNat)
  sort : s.Pairwise fun x y => x.p ≤ y.p
def greats (want : Int) (l : List Bl) : List Bl := l.filter fun b => decide (want ≤ b.o)
def smalls (want : Int) (l : List Bl) : List Bl := l.filter fun b => !decide (want ≤ b.o)
theorem gs_perm (want : Int) (l : List Bl) : (greats want l ++ smalls want l).Perm l := List.filter_append_perm _ l
def Splits (want : Int) (fs : List Bl) (b : Bl) (i : Nat) (l : List Bl) : Prop := (b :: l).Perm (greats want fs ++ hv b.p b.o i)
theorem Splits.start {want : Int} {fs l l' : List Bl} (hp : l.Perm (greats want fs)) (h : (l' ++ [gB l 0]).Perm l) : Splits want fs (gB l 0) 0 l' := by
  unfold Splits
  rw [hv, List.append_nil]
  exact (List.perm_append_comm (l₁ := [gB l 0])).trans (h.trans hp)
theorem Splits.step {want : Int} {fs l l' : List Bl} {b : Bl} {i : Nat} (h : Splits want fs b i l) (hp : l'.Perm (l ++ [⟨b.p + pw (b.o - i - 1), b.o - i - 1⟩])) : Splits want fs b (i + 1) l' := by
  unfold Splits at *
  rw [hv, ← List.append_assoc]
  exact (hp.cons b).trans (h.append_right [_])
theorem Splits.len {want : Int} {fs l : List Bl} {b : Bl} {i : Nat} (h : Splits want fs b i l) : l.length + 1 = (greats want fs).length + i := by
  have := h.length_eq
  rw [List.length_append, hv_len, List.length_cons] at this
  exact this
theorem Splits.done {want : Int} {fs l s : List Bl} {b : Bl} (h : Splits want fs b (b.o - want).toNat l) (hs : s.Perm (l ++ smalls want fs)) (hso : s.Pairwise fun x y => x.p ≤ y.p) : TakenP want fs b s := by
  refine ⟨?_, hso⟩
  refine (hs.cons b).trans ?_
  rw [← List.cons_append]
  refine (h.append_right _).trans ?_
  rw [List.append_assoc]
  refine (List.perm_append_comm.append_left _).trans ?_
  rw [← List.append_assoc]
  exact (gs_perm want fs).append_right _
end Go.Proofs.YtcjbepaclbhjaaaGreat
namespace Go.Proofs.YtcjbepaclbhjaaaGreat
open Go.RowKit Go.Lib Go.Shelf Go.Sort
theorem Keeps.three {B : Nat} {w0 w : World} {L : List Blk} (h : Hp B w0 w L) {i j k : Nat} {p q r : Blk} (hi : L[i]? = some p) (hj : L[j]? = some q) (hk : L[k]? = some r) : Keeps B w0 [p, q, r] w := ⟨L, h, fun s hs => by
  rcases List.mem_cons.1 hs with rfl | hs
  · exact Hp.mem hi
  · rcases List.mem_cons.1 hs with rfl | hs
    · exact Hp.mem hj
    · rw [List.mem_singleton.1 hs]; exact Hp.mem hk⟩
end Go.Proofs.YtcjbepaclbhjaaaGreat
namespace Go.Proofs.YtcjbepaclbhjaaaGreat
open Go.RowKit
theorem Hp.sub {B : Nat} {w0 w : World} {L L' : List Blk} (hp : Hp B w0 w L) (h : L'.Sublist L) : Hp B w0 w L' :=
  ⟨hp.below, hp.size, (h.map _).nodup hp.nodup, fun p hpL => hp.own p (h.subset hpL)⟩
end Go.Proofs.YtcjbepaclbhjaaaGreat
/- Texts merged: buddy:GM buddy:GS buddy:GI buddy:GD. -/
namespace Go.Proofs.YtcjbepaclbhjaaaGreat
open Go.RowKit
def BoxIs (w : World) (b : Nat) (q r : Int) : Prop := ∀ (j : Nat) v, [Value.int .i64 q, .int .i64 r][j]? = some v → w.cell? ⟨b, 0 + j, none⟩ = some v
theorem BoxIs.below {w w' : World} {b : Nat} {q r : Int} (h : BoxIs w b q r) (hb : b < w.heap.size) (hw : Below w.heap.size w w') : BoxIs w' b q r := fun j v hj => (hw.cell (p := ⟨b, 0 + j, none⟩) hb).trans (h j v hj)
def IndexP (l : List Bl) (v : Bl) (r : Int) : Prop := (r = -1 ∧ v ∉ l) ∨ ∃ j : Nat, r = j ∧ l[j]? = some v
end Go.Proofs.YtcjbepaclbhjaaaGreat
namespace Go.Proofs.YtcjbepaclbhjaaaGreat
def Disj (l : List Bl) : Prop := l.Pairwise fun x y => x.p + pw x.o ≤ y.p
theorem Good.disj {od : Int} {l : List Bl} (h : Good od l) : Disj l := by
  unfold Disj
  rw [List.pairwise_iff_getElem]
  intro i j hi hj hij
  exact ((h j _ (List.getElem?_eq_getElem hj)).2 i _ hij (List.getElem?_eq_getElem hi)).1
theorem Disj.sorted {l : List Bl} (h : Disj l) : SortedB l := by
  intro i j x y hij hx hy
  unfold Disj at h
  rw [List.pairwise_iff_getElem] at h
  obtain ⟨hi, rfl⟩ := List.getElem?_eq_some_iff.1 hx
  obtain ⟨hj, rfl⟩ := List.getElem?_eq_some_iff.1 hy
  have := h i j hi hj hij
  have := pw_pos l[i].o
  omega
theorem Disj.apart {l : List Bl} (h : Disj l) {x y : Bl} (hx : x ∈ l) (hy : y ∈ l) (hne : x ≠ y) : ¬ MeetP x y := by
  obtain ⟨i, hi, rfl⟩ := List.getElem_of_mem hx
  obtain ⟨j, hj, rfl⟩ := List.getElem_of_mem hy
  unfold Disj at h
  rw [List.pairwise_iff_getElem] at h
  rintro ⟨m1, m2⟩
  rcases Nat.lt_trichotomy i j with hij | hij | hij
  · have := h i j hi hj hij; omega
  · subst hij; exact hne rfl
  · have := h j i hj hi hij; omega
theorem Disj.sub {l k : List Bl} (h : Disj l) (hs : k.Sublist l) : Disj k := List.Pairwise.sublist hs h
def without (l : List Bl) (v : Bl) : List Bl := l.filter fun x => decide (x ≠ v)
theorem without_sub (l : List Bl) (v : Bl) : (without l v).Sublist l := List.filter_sublist
theorem SortedB.nodup {l : List Bl} (h : SortedB l) : l.Nodup := by
  unfold List.Nodup
  rw [List.pairwise_iff_getElem]
  intro i j hi hj hij he
  have := h i j _ _ hij (List.getElem?_eq_getElem hi) (List.getElem?_eq_getElem hj)
  rw [he] at this; omega
theorem erase_without {l : List Bl} {v : Bl} {j : Nat} (hn : l.Nodup) (hj : l[j]? = some v) : l.eraseIdx j = without l v := by
  induction l generalizing j with
  | nil => simp at hj
  | cons x l ih =>
    obtain ⟨h1, h2⟩ := List.nodup_cons.1 hn
    cases j with
    | zero =>
      simp at hj; subst hj
      rw [List.eraseIdx_cons_zero]
      unfold without
      rw [List.filter_cons_of_neg (by simp)]
      exact (List.filter_eq_self.2 (fun a ha => by simp; intro h; subst h; exact h1 ha)).symm
    | succ j =>
      rw [List.getElem?_cons_succ] at hj
      rw [List.eraseIdx_cons_succ, ih h2 hj]
      unfold without
      rw [List.filter_cons_of_pos (by simp; intro h; subst h; exact h1 (List.mem_of_getElem? hj))]
def withL : List Bl → Bl → List Bl
  | [], b => [b]
  | x :: r, b => if b.p < x.p then b :: x :: r else x :: withL r b
theorem withL_perm (l : List Bl) (b : Bl) : (withL l b).Perm (b :: l) := by
  induction l with
  | nil => exact List.Perm.refl _
  | cons x r ih =>
    unfold withL
    split
    · exact List.Perm.refl _
    · exact (ih.cons x).trans (List.Perm.swap _ _ _)
theorem withL_at {l : List Bl} {b : Bl} {k : Nat} (hk : AtB l b.p k) (hne : ∀ y ∈ l, y.p ≠ b.p) : l.take k ++ b :: l.drop k = withL l b := by
  induction l generalizing k with
  | nil =>
    have : k = 0 := by have := hk.1; simpa using this
    subst this; rfl
  | cons x r ih =>
    unfold withL
    cases k with
    | zero =>
      have h1 := hk.2.2 0 x rfl (Nat.le_refl _)
      have h2 := hne x (by simp)
      rw [if_pos (by omega)]; rfl
    | succ k =>
      have h1 := hk.2.1 0 x rfl (by omega)
      rw [if_neg (by omega), List.take_succ_cons, List.drop_succ_cons, List.cons_append, ih (k := k) ⟨by have := hk.1; simpa using this, fun j y hj hjk => hk.2.1 (j + 1) y (by simpa using hj) (by omega), fun j y hj hjk => hk.2.2 (j + 1) y (by simpa using hj) (by omega)⟩ (fun y hy => hne y (by simp [hy]))]
def mergeB (b : Bl) : Bl := ⟨min b.p (twinP b).p, b.o + 1⟩
def giveF (od : Int) : Nat → List Bl → Bl → List Bl × Bl
  | 0, l, b => (l, b)
  | n + 1, l, b => if b.o < od ∧ twinP b ∈ l then giveF od n (without l (twinP b)) (mergeB b) else (l, b)
theorem pw_dvd {o od : Int} (h0 : 0 ≤ o) (h1 : o ≤ od) (h8 : od ≤ 8) : pw od % pw o = 0 := by
  rcases pw_cases h0 (by omega) with rfl | rfl | rfl | rfl | rfl | rfl | rfl | rfl | rfl <;>
  rcases pw_cases (o := od) (by omega) h8 with rfl | rfl | rfl | rfl | rfl | rfl | rfl | rfl | rfl <;> first | decide | omega
theorem twin_cases {od : Int} {b : Bl} (h : MayP od b) (h8 : od ≤ 8) (ho : b.o < od) : (twinP b = ⟨b.p + pw b.o, b.o⟩ ∧ b.p % (2 * pw b.o) = 0 ∧ b.p + 2 * pw b.o ≤ pw od) ∨ (twinP b = ⟨b.p - pw b.o, b.o⟩ ∧ 0 ≤ b.p - pw b.o ∧ (b.p - pw b.o) % (2 * pw b.o) = 0) := by
  obtain ⟨h1, h2, h3, h4, h5⟩ := h
  have hd := pw_dvd (o := b.o + 1) (by omega) (by omega) h8
  rw [pw_succ h1] at hd
  generalize pw od = E at h4 hd ⊢
  obtain ⟨p, o⟩ := b
  simp only at *
  unfold twinP
  simp only
  by_cases hc : p % (2 * pw o) = 0
  · left
    rw [if_pos hc]
    refine ⟨rfl, hc, ?_⟩
    rcases pw_cases h1 (by omega) with rfl | rfl | rfl | rfl | rfl | rfl | rfl | rfl | rfl
    all_goals
      simp only [pw, Int.reduceToNat, Int.reducePow, Int.reduceMul] at h4 h5 hd hc ⊢
      omega
  · right
    rw [if_neg hc]
    refine ⟨rfl, ?_, ?_⟩
    all_goals
      rcases pw_cases h1 (by omega) with rfl | rfl | rfl | rfl | rfl | rfl | rfl | rfl | rfl
      all_goals
        simp only [pw, Int.reduceToNat, Int.reducePow, Int.reduceMul] at h4 h5 hd hc ⊢
        omega
theorem merge_may {od : Int} {b : Bl} (h : MayP od b) (h8 : od ≤ 8) (ho : b.o < od) : MayP od (mergeB b) := by
  have hp := pw_pos b.o
  have hs := pw_succ h.1
  unfold mergeB MayP
  simp only
  rw [hs]
  rcases twin_cases h h8 ho with ⟨ht, h1, h2⟩ | ⟨ht, h1, h2⟩
  · rw [ht]; simp only
    rw [show min b.p (b.p + pw b.o) = b.p by omega]
    exact ⟨by have := h.1; omega, by omega, h.2.2.1, by omega, h1⟩
  · rw [ht]; simp only
    rw [show min b.p (b.p - pw b.o) = b.p - pw b.o by omega]
    have := h.end_le
    exact ⟨by have := h.1; omega, by omega, h1, by omega, h2⟩
theorem merge_meets {od : Int} {b x : Bl} (h : MayP od b) (h8 : od ≤ 8) (ho : b.o < od) (hm : MeetP x (mergeB b)) : MeetP x b ∨ MeetP x (twinP b) := by
  have hp := pw_pos b.o
  have hs := pw_succ h.1
  have hx := pw_pos x.o
  obtain ⟨m1, m2⟩ := hm
  unfold mergeB at m1 m2
  simp only at m1 m2
  rw [hs] at m1
  unfold MeetP
  rcases twin_cases h h8 ho with ⟨ht, h1, h2⟩ | ⟨ht, h1, h2⟩
  · rw [ht] at m1 m2 ⊢; simp only at m1 m2 ⊢; omega
  · rw [ht] at m1 m2 ⊢; simp only at m1 m2 ⊢; omega
structure GiveAt (od : Int) (l : List Bl) (b : Bl) : Prop where
  disj : Disj l
  may : MayP od b
  free : ∀ x ∈ l, ¬ MeetP x b
theorem GiveAt.step {od : Int} {l : List Bl} {b : Bl} (h : GiveAt od l b) (h8 : od ≤ 8) (ho : b.o < od) (hm : twinP b ∈ l) : GiveAt od (without l (twinP b)) (mergeB b) := by
  refine ⟨h.disj.sub (without_sub _ _), merge_may h.may h8 ho, fun x hx hmm => ?_⟩
  obtain ⟨h1, h2⟩ := List.mem_filter.1 hx
  rcases merge_meets h.may h8 ho hmm with h3 | h3
  · exact h.free x h1 h3
  · exact h.disj.apart h1 hm (by simpa using h2) h3
theorem GiveAt.ne {od : Int} {l : List Bl} {b : Bl} (h : GiveAt od l b) : ∀ y ∈ l, y.p ≠ b.p := fun y hy he => h.free y hy ⟨by have := pw_pos b.o; omega, by have := pw_pos y.o; omega⟩
theorem giveF_no {od : Int} {n : Nat} {l : List Bl} {b : Bl} (h : ¬ (b.o < od ∧ twinP b ∈ l)) : giveF od n l b = (l, b) := by
  cases n with
  | zero => rfl
  | succ n => rw [giveF, if_neg h]
def givenL (od : Int) (fs : List Bl) (b : Bl) : List Bl := withL (giveF od (od - b.o).toNat fs b).1 (giveF od (od - b.o).toNat fs b).2
end Go.Proofs.YtcjbepaclbhjaaaGreat
namespace Go.Proofs.YtcjbepaclbhjaaaGreat
open Go.RowKit
theorem size150 : (Tryz.prog.info? 150).map (·.size) = some 2 := by kernel_rfl
end Go.Proofs.YtcjbepaclbhjaaaGreat
namespace Go.Proofs.YtcjbepaclbhjaaaGreat
open Go.RowKit Go.Lib
theorem RowIs.part {B : Nat} {w0 w : World} {g t n j : Nat} {xs : List Value} {M : List Blk} (hp : Hp B w0 w (⟨g, xs, t, n⟩ :: M)) : RowIs w (some ⟨g, j, none⟩) (xs.drop j) := fun q v hq => ⟨g, j, rfl, hp.cell at0 (by rw [List.getElem?_drop] at hq; exact hq)⟩
end Go.Proofs.YtcjbepaclbhjaaaGreat
