/- The law's proof, part 14: the text SortKit of this session, or words printed for this seat; what the theorem doesn't use is left out. No conditions. -/
import Derived.Test.YtllepjhimkogjaaFSTe10
import Derived.Test.YtllepjhimkogjaaFSTe11
import Derived.Deep.LoopGhost
import Derived.RegionTactic
import Derived.BigRegion
import Derived.Test.YtllepjhimkogjaaFSTe12
import Derived.Test.YtllepjhimkogjaaFSTe13
namespace Go.Proofs.Ytllepjhimkogjaa.Ob
end Go.Proofs.Ytllepjhimkogjaa.Ob
namespace Go.Proofs.Ytllepjhimkogjaa.Sk
end Go.Proofs.Ytllepjhimkogjaa.Sk
namespace Go.Proofs.Ytllepjhimkogjaa.Two
end Go.Proofs.Ytllepjhimkogjaa.Two
namespace Go.Proofs.YtllepjhimkogjaaW.PrintLast
end Go.Proofs.YtllepjhimkogjaaW.PrintLast
namespace Go.Proofs.YtllepjhimkogjaaW.PrintWords
end Go.Proofs.YtllepjhimkogjaaW.PrintWords
namespace Go.Proofs.Ytllepjhimkogjaa.Rw
open Go.RowKit Go.Proofs.Ytllepjhimkogjaa.Ob
set_option linter.unusedSimpArgs false
set_option linter.unusedVariables false
abbrev E := Go.Proofs.Ytllepjhimkogjaa.Ty.S51
def FRow (W : World) (g N : Nat) (c : Nat → Value) : Prop := Row W g ((List.range N).map c)
theorem range_map_at (N : Nat) (c : Nat → Value) (i : Nat) (v : Value) : ((List.range N).map c)[i]? = some v ↔ i < N ∧ c i = v := by
  rw [List.getElem?_map]
  by_cases h : i < N
  · rw [List.getElem?_range h]; simp [h]
  · rw [List.getElem?_eq_none (by simpa using h)]; simp [h]
theorem FRow.get {W : World} {g N : Nat} {c : Nat → Value} (h : FRow W g N c) (i : Nat) (hi : i < N) : W.cell? ⟨g, i, none⟩ = some (c i) ∧ W.frozen? ⟨g, i, none⟩ = false := h i _ ((range_map_at N c i _).2 ⟨hi, rfl⟩)
theorem FRow.set {W : World} {g N : Nat} {c : Nat → Value} (h : FRow W g N c) (j : Nat) (v : Value) : FRow (W.setCell ⟨g, j, none⟩ v) g N (fun o => if o = j then v else c o) := by
  have h2 := Row.set h j v
  unfold FRow
  have e : ((List.range N).map c).set j v = (List.range N).map (fun o => if o = j then v else c o) := by
    apply List.ext_getElem?
    intro i
    rw [List.getElem?_set]
    by_cases hi : i < N
    · rw [List.getElem?_map, List.getElem?_range hi, List.length_map, List.length_range]
      by_cases e : j = i
      · subst e; simp [hi]
      · rw [if_neg e, List.getElem?_map, List.getElem?_range hi]
        have : ¬ i = j := fun k => e k.symm
        simp [this]
    · rw [List.getElem?_eq_none (l := (List.range N).map _) (by simpa using hi)]
      by_cases e : j = i
      · subst e; simp [hi]
      · rw [if_neg e, List.getElem?_eq_none (by simpa using hi)]
  rw [e] at h2
  exact h2
def cells4 (x : E) : List Value := [.string x.f0, .int .i64 x.f1.f0, .int .i64 x.f1.f1, .string x.f1.f2]
def flat (f : Nat → E) (o : Nat) : Value := (cells4 (f (o / 4))).getD (o % 4) undef
def At (W : World) (g n : Nat) (f : Nat → E) : Prop := FRow W g (4 * n) (flat f)
def upd (f : Nat → E) (i : Nat) (x : E) : Nat → E := fun j => if j = i then x else f j
def sw (f : Nat → E) (i j : Nat) : Nat → E := upd (upd f i (f j)) j (f i)
theorem At.get {W : World} {g n : Nat} {f : Nat → E} (h : At W g n f) (i : Nat) (hi : i < n) :
    (W.cell? ⟨g, i * 4, none⟩ = some (.string (f i).f0) ∧ W.frozen? ⟨g, i * 4, none⟩ = false) ∧ (W.cell? ⟨g, i * 4 + 1, none⟩ = some (.int .i64 (f i).f1.f0) ∧ W.frozen? ⟨g, i * 4 + 1, none⟩ = false) ∧
    (W.cell? ⟨g, i * 4 + 2, none⟩ = some (.int .i64 (f i).f1.f1) ∧ W.frozen? ⟨g, i * 4 + 2, none⟩ = false) ∧ (W.cell? ⟨g, i * 4 + 3, none⟩ = some (.string (f i).f1.f2) ∧ W.frozen? ⟨g, i * 4 + 3, none⟩ = false) := by
  have h0 := FRow.get h (i * 4) (by omega)
  have h1 := FRow.get h (i * 4 + 1) (by omega)
  have h2 := FRow.get h (i * 4 + 2) (by omega)
  have h3 := FRow.get h (i * 4 + 3) (by omega)
  unfold flat at h0 h1 h2 h3
  rw [show i * 4 / 4 = i by omega, show i * 4 % 4 = 0 by omega] at h0
  rw [show (i * 4 + 1) / 4 = i by omega, show (i * 4 + 1) % 4 = 1 by omega] at h1
  rw [show (i * 4 + 2) / 4 = i by omega, show (i * 4 + 2) % 4 = 2 by omega] at h2
  rw [show (i * 4 + 3) / 4 = i by omega, show (i * 4 + 3) % 4 = 3 by omega] at h3
  exact ⟨h0, h1, h2, h3⟩
theorem At.put {W : World} {g n : Nat} {f : Nat → E} (h : At W g n f) (i : Nat) (x : E) :
    At ((((W.setCell ⟨g, i * 4, none⟩ (.string x.f0)).setCell ⟨g, i * 4 + 1, none⟩ (.int .i64 x.f1.f0)).setCell ⟨g, i * 4 + 2, none⟩ (.int .i64 x.f1.f1)).setCell ⟨g, i * 4 + 3, none⟩ (.string x.f1.f2)) g n (upd f i x) := by
  have h4 := (((FRow.set h (i * 4) (.string x.f0)).set (i * 4 + 1) (.int .i64 x.f1.f0)).set (i * 4 + 2) (.int .i64 x.f1.f1)).set (i * 4 + 3) (.string x.f1.f2)
  unfold At
  have e : flat (upd f i x) = (fun o => if o = i * 4 + 3 then Value.string x.f1.f2 else if o = i * 4 + 2 then .int .i64 x.f1.f1 else if o = i * 4 + 1 then .int .i64 x.f1.f0 else if o = i * 4 then .string x.f0 else flat f o) := by
    funext o
    unfold flat upd
    by_cases hq : o / 4 = i
    · have hr : o % 4 = 0 ∨ o % 4 = 1 ∨ o % 4 = 2 ∨ o % 4 = 3 := by omega
      rw [if_pos hq]
      rcases hr with r | r | r | r
      · rw [r, if_neg (by omega), if_neg (by omega), if_neg (by omega), if_pos (by omega)]; rfl
      · rw [r, if_neg (by omega), if_neg (by omega), if_pos (by omega)]; rfl
      · rw [r, if_neg (by omega), if_pos (by omega)]; rfl
      · rw [r, if_pos (by omega)]; rfl
    · rw [if_neg hq, if_neg (by omega), if_neg (by omega), if_neg (by omega), if_neg (by omega)]
  rw [e]
  exact h4
theorem At.keep {W W' : World} {g n : Nat} {f : Nat → E} (h : At W g n f) (k : Below W.heap.size W W') : At W' g n f := Row.only h (Two.below_only0 k) id
theorem At.drew {W : World} {g n : Nat} {f : Nat → E} (h : At W g n f) : At W.drew g n f := h
end Go.Proofs.Ytllepjhimkogjaa.Rw
namespace Go.Proofs.Ytllepjhimkogjaa.Rw
open Go.RowKit Go.Proofs.Ytllepjhimkogjaa.Ob Go.Proofs.YtllepjhimkogjaaW.PrintWords Go.Proofs.YtllepjhimkogjaaW.PrintLast
set_option linter.unusedSimpArgs false
set_option linter.unusedVariables false
theorem only_put {S : Nat → Prop} {a W : World} (h : Only S a W) (g : Nat) (hg : S g) (i : Nat) (x : E) :
    Only S a ((((W.setCell ⟨g, i * 4, none⟩ (.string x.f0)).setCell ⟨g, i * 4 + 1, none⟩ (.int .i64 x.f1.f0)).setCell ⟨g, i * 4 + 2, none⟩ (.int .i64 x.f1.f1)).setCell ⟨g, i * 4 + 3, none⟩ (.string x.f1.f2)) :=
  (((h.setCell _ _ hg).setCell _ _ hg).setCell _ _ hg).setCell _ _ hg
def swR (f : Nat → E) (a b : Nat) : Nat → (Nat → E)
  | 0 => f
  | k + 1 => sw (swR f a b k) (a + k) (b + k)
set_option maxHeartbeats 4000000 in
set_option maxRecDepth 1000000 in
theorem swap_walk (w : World) (g n c : Nat) (f : Nat → E) (a b k : Nat) (hn : n ≤ 1000) (ha : a + k ≤ n) (hb : b + k ≤ n) (hab : a < b) (hA : At w g n f) :
    Calls Try.prog 136 #[.slice (some ⟨g, 0, none⟩) n c, .int .i64 (a : Int), .int .i64 (b : Int), .int .i64 (k : Int), .func (.func 61) #[] #[]] w fun e w' => e = .returned (.tuple #[]) ∧ At w' g n (swR f a b k) ∧ Only (fun q => q = g) w w' := by
  replace hA := Aside0.mk hA
  have hO := Aside0.mk (Only.refl (fun q => q = g) w)
  go_enter Try.func136, Try.ntmps136
  go_wp2
  go_loopg [10] (k + 1) (fun kq v10 wr => ∃ i : Nat, v10 = .int .i64 (i : Int) ∧ i ≤ k ∧ k - i < kq ∧ Aside0 (At wr g n (swR f a b i)) ∧ Aside0 (Only (fun q => q = g) w wr))
  case atStart => exact ⟨0, rfl, by omega, by omega, hA, hO⟩
  case round =>
    clear hA hO
    obtain ⟨i, rfl, hi, hk, hA, hO⟩ := hrel
    obtain ⟨k1, rfl⟩ : ∃ m, gk = m + 1 := ⟨gk - 1, by omega⟩
    have hi0 : (0 : Int) ≤ (i : Int) := by omega
    by_cases hik : i < k
    · have hikI : (i : Int) < (k : Int) := by omega
      obtain ⟨p, hp⟩ : ∃ p : Nat, a + i = p := ⟨_, rfl⟩
      obtain ⟨q, hq⟩ : ∃ q : Nat, b + i = q := ⟨_, rfl⟩
      have hpI : IntKind.i64.wrap ((a : Int) + (i : Int)) = (p : Int) := by rw [IntWalk.i64_in _ (by omega)]; omega
      have hqI : IntKind.i64.wrap ((b : Int) + (i : Int)) = (q : Int) := by rw [IntWalk.i64_in _ (by omega)]; omega
      have hpq : p < q := by omega
      have hpn : p < n := by omega
      have hqn : q < n := by omega
      have p0 : (0 : Int) ≤ (p : Int) := by omega
      have q0 : (0 : Int) ≤ (q : Int) := by omega
      have p1 : (p : Int) < (n : Int) := by omega
      have q1 : (q : Int) < (n : Int) := by omega
      have hset := Aside0.mk (fun W (h : At W g n (swR f a b i)) => (h.put p (swR f a b i q)).put q (swR f a b i p))
      have hsw : upd (upd (swR f a b i) p (swR f a b i q)) q (swR f a b i p) = swR f a b (i + 1) := by rw [← hp, ← hq]; rfl
      obtain ⟨⟨a0, a0f⟩, ⟨a1, a1f⟩, ⟨a2, a2f⟩, ⟨a3, a3f⟩⟩ := hA.out.get p hpn
      obtain ⟨⟨b0, b0f⟩, ⟨b1, b1f⟩, ⟨b2, b2f⟩, ⟨b3, b3f⟩⟩ := hA.out.get q hqn
      rw [hsw] at hset
      clear hsw
      generalize swR f a b i p = x at *
      generalize swR f a b i q = y at *
      replace hp := Aside0.mk hp
      replace hq := Aside0.mk hq
      go_wp2
      go_region
      go_wp2
      go_roundg k1
      case measure => omega
      case rel => exact ⟨i + 1, by first | rfl | simp, by omega, by omega, ⟨(hset.out _ hA.out).drew⟩, ⟨(only_put (only_put hO.out g rfl p y) g rfl q x).drew⟩⟩
    · obtain rfl : i = k := by omega
      clear hk
      go_wp2
      go_end0
      exact ⟨rfl, hA.out, hO.out⟩
end Go.Proofs.Ytllepjhimkogjaa.Rw
namespace Go.Proofs.Ytllepjhimkogjaa.Rw
open Go.RowKit Go.Proofs.Ytllepjhimkogjaa.Ob Go.Proofs.YtllepjhimkogjaaW.PrintWords Go.Proofs.YtllepjhimkogjaaW.PrintLast
set_option linter.unusedSimpArgs false
set_option linter.unusedVariables false
theorem swR_apply (f : Nat → E) (a b : Nat) : ∀ k, a + k ≤ b → ∀ x, swR f a b k x = if a ≤ x ∧ x < a + k then f (b + (x - a)) else if b ≤ x ∧ x < b + k then f (a + (x - b)) else f x := by
  intro k
  induction k with
  | zero => intro h x; rw [if_neg (by omega), if_neg (by omega)]; rfl
  | succ k ih =>
    intro h x
    have ih := ih (by omega)
    show sw (swR f a b k) (a + k) (b + k) x = _
    unfold sw upd
    by_cases e1 : x = b + k
    · rw [if_pos e1, ih, if_neg (by omega), if_neg (by omega), if_neg (by omega), if_pos (by omega)]
      congr 1; omega
    · rw [if_neg e1]
      by_cases e2 : x = a + k
      · rw [if_pos e2, ih, if_neg (by omega), if_neg (by omega), if_pos (by omega)]
        congr 1; omega
      · rw [if_neg e2, ih]
        by_cases c1 : a ≤ x ∧ x < a + k
        · rw [if_pos c1, if_pos (by omega)]
        · rw [if_neg c1, if_neg (show ¬ (a ≤ x ∧ x < a + (k + 1)) by omega)]
          by_cases c2 : b ≤ x ∧ x < b + k
          · rw [if_pos c2, if_pos (by omega)]
          · rw [if_neg c2, if_neg (by omega)]
def rot (f : Nat → E) (a m b : Nat) : Nat → E := fun x => if a ≤ x ∧ x < a + (b - m) then f (x + (m - a)) else if a + (b - m) ≤ x ∧ x < b then f (x - (b - m)) else f x
theorem rot_end (f : Nat → E) (m i : Nat) (h : i ≤ m) : swR f (m - i) m i = rot f (m - i) m (m + i) := by
  funext x
  rw [swR_apply f _ _ _ (by omega)]
  unfold rot
  by_cases c1 : m - i ≤ x ∧ x < m - i + i
  · rw [if_pos c1, if_pos (by omega)]; congr 1; omega
  · rw [if_neg c1, if_neg (show ¬ (m - i ≤ x ∧ x < m - i + (m + i - m)) by omega)]
    by_cases c2 : m ≤ x ∧ x < m + i
    · rw [if_pos c2, if_pos (by omega)]; congr 1; omega
    · rw [if_neg c2, if_neg (by omega)]
theorem rot_gt (f : Nat → E) (m i j : Nat) (h : i ≤ m) (hij : j < i) (hj : 0 < j) : rot (swR f (m - i) m j) (m - (i - j)) m (m + j) = rot f (m - i) m (m + j) := by
  funext x
  unfold rot
  by_cases c1 : m - i ≤ x ∧ x < m - i + (m + j - m)
  · rw [if_pos c1, if_neg (by omega), if_neg (by omega), swR_apply f _ _ _ (by omega), if_pos (by omega)]
    congr 1; omega
  · rw [if_neg c1]
    by_cases c2 : m - i + (m + j - m) ≤ x ∧ x < m + j
    · rw [if_pos c2]
      by_cases c3 : x < m - i + 2 * j
      · rw [if_pos (by omega), swR_apply f _ _ _ (by omega), if_neg (by omega), if_pos (by omega)]
        congr 1; omega
      · rw [if_neg (by omega), if_pos (by omega), swR_apply f _ _ _ (by omega), if_neg (by omega), if_neg (by omega)]
    · rw [if_neg c2, if_neg (by omega), if_neg (by omega), swR_apply f _ _ _ (by omega), if_neg (by omega), if_neg (by omega)]
theorem rot_lt (f : Nat → E) (m i j : Nat) (h : i ≤ m) (hij : i < j) (hi : 0 < i) : rot (swR f (m - i) (m + j - i) i) (m - i) m (m + (j - i)) = rot f (m - i) m (m + j) := by
  funext x
  unfold rot
  by_cases c1 : m - i ≤ x ∧ x < m - i + (m + j - m)
  · rw [if_pos c1]
    by_cases c3 : x < m - i + (j - i)
    · rw [if_pos (by omega), swR_apply f _ _ _ (by omega), if_neg (by omega), if_neg (by omega)]
    · rw [if_neg (by omega), if_pos (by omega), swR_apply f _ _ _ (by omega), if_pos (by omega)]
      congr 1; omega
  · rw [if_neg c1]
    by_cases c2 : m - i + (m + j - m) ≤ x ∧ x < m + j
    · rw [if_pos c2, if_neg (by omega), if_neg (by omega), swR_apply f _ _ _ (by omega), if_neg (by omega), if_pos (by omega)]
      congr 1; omega
    · rw [if_neg c2, if_neg (by omega), if_neg (by omega), swR_apply f _ _ _ (by omega), if_neg (by omega), if_neg (by omega)]
theorem swap_w (W : World) (g n c : Nat) (f : Nat → E) (a b k : Nat) (x y z : Int) (hx : x = (a : Int)) (hy : y = (b : Int)) (hz : z = (k : Int)) (hn : n ≤ 1000) (ha : a + k ≤ n) (hb : b + k ≤ n) (hab : a < b) (hA : At W g n f) (r : Nat → E) (hr : swR f a b k = r) :
    Calls Try.prog 136 #[.slice (some ⟨g, 0, none⟩) n c, .int .i64 x, .int .i64 y, .int .i64 z, .func (.func 61) #[] #[]] W fun e w' => e = .returned (.tuple #[]) ∧ At w' g n r ∧ Only (fun q => q = g) W w' := by
  subst hx hy hz hr
  exact swap_walk W g n c f a b k hn ha hb hab hA
set_option maxHeartbeats 4000000 in
set_option maxRecDepth 1000000 in
theorem rot_walk (w : World) (g n c : Nat) (f : Nat → E) (a m b : Nat) (hn : n ≤ 1000) (ha : a < m) (hm : m < b) (hb : b ≤ n) (hA : At w g n f) :
    Calls Try.prog 131 #[.slice (some ⟨g, 0, none⟩) n c, .int .i64 (a : Int), .int .i64 (m : Int), .int .i64 (b : Int), .func (.func 61) #[] #[]] w fun e w' => e = .returned (.tuple #[]) ∧ At w' g n (rot f a m b) ∧ Only (fun q => q = g) w w' := by
  replace hA := Aside0.mk hA
  have hO := Aside0.mk (Only.refl (fun q => q = g) w)
  obtain ⟨R, hR⟩ : ∃ R, rot f a m b = R := ⟨_, rfl⟩
  rw [hR]
  obtain ⟨i0, hi0⟩ : ∃ i0 : Nat, a + i0 = m := ⟨m - a, by omega⟩
  obtain ⟨j0, hj0⟩ : ∃ j0 : Nat, m + j0 = b := ⟨b - m, by omega⟩
  have e1 : (m : Int) - (a : Int) = (i0 : Int) := by omega
  have e2 : (b : Int) - (m : Int) = (j0 : Int) := by omega
  have hstart := Aside0.mk (show rot f (m - i0) m (m + j0) = R by rw [show m - i0 = a by omega, hj0]; exact hR)
  have hb1 : 0 < i0 ∧ 0 < j0 ∧ i0 ≤ m ∧ m + j0 ≤ n := by omega
  clear hR
  replace hi0 := Aside0.mk hi0
  replace hj0 := Aside0.mk hj0
  go_enter Try.func131, Try.ntmps131
  go_wp2
  clear e1 e2
  go_loopg [10, 11] (i0 + j0 + 1) (fun kq v10 v11 wr => ∃ (i j : Nat) (f1 : Nat → E), v10 = .int .i64 (i : Int) ∧ v11 = .int .i64 (j : Int) ∧ 0 < i ∧ 0 < j ∧ i ≤ m ∧ m + j ≤ n ∧ i + j < kq ∧ Aside0 (rot f1 (m - i) m (m + j) = R) ∧ Aside0 (At wr g n f1) ∧ Aside0 (Only (fun q => q = g) w wr))
  case atStart => exact ⟨i0, j0, f, rfl, rfl, hb1.1, hb1.2.1, hb1.2.2.1, hb1.2.2.2, by omega, hstart, hA, hO⟩
  case round =>
    clear hA hO hstart
    obtain ⟨i, j, f1, rfl, rfl, hi, hj, him, hjm, hk, hR, hA, hO⟩ := hrel
    obtain ⟨k1, rfl⟩ : ∃ m, gk = m + 1 := ⟨gk - 1, by omega⟩
    rcases Nat.lt_trichotomy i j with h | h | h
    · have h1 : (i : Int) < (j : Int) := by omega
      have h2 : ((i : Int) == (j : Int)) = false := by simp; omega
      have h3 : ((i : Int) != (j : Int)) = true := by simp; omega
      have h4 : ¬ (j : Int) < (i : Int) := by omega
      have hs := Aside0.mk (rot_lt f1 m i j him h hi)
      go_wp2_with (go_at_call 136; refine (swap_w _ g n c f1 (m - i) (m + j - i) i _ _ _ (by omega) (by omega) rfl hn (by omega) (by omega) (by omega) hA.out _ rfl).mono ?_; rintro e w1 ⟨rfl, hA1, hO1⟩; replace hA := Aside0.mk hA1; replace hO := Aside0.mk (hO.out.trans hO1); clear hA1 hO1)
      go_roundg k1
      case measure => omega
      case rel => exact ⟨i, j - i, _, rfl, by congr 1; omega, hi, by omega, him, by omega, by omega, ⟨hs.out.trans hR.out⟩, hA, hO⟩
    · subst h
      have h2 : ((i : Int) == (i : Int)) = true := by simp
      have h3 : ((i : Int) != (i : Int)) = false := by simp
      have hs := Aside0.mk (rot_end f1 m i him)
      clear hk
      go_wp2_with (go_at_call 136; refine (swap_w _ g n c f1 (m - i) m i _ _ _ (by omega) rfl rfl hn (by omega) (by omega) (by omega) hA.out R (hs.out.trans hR.out)).mono ?_; rintro e w1 ⟨rfl, hA1, hO1⟩; replace hA := Aside0.mk hA1; replace hO := Aside0.mk (hO.out.trans hO1); clear hA1 hO1)
      go_end0
      exact ⟨rfl, hA.out, hO.out⟩
    · have h1 : (j : Int) < (i : Int) := by omega
      have h2 : ((i : Int) == (j : Int)) = false := by simp; omega
      have h3 : ((i : Int) != (j : Int)) = true := by simp; omega
      have hs := Aside0.mk (rot_gt f1 m i j him h hj)
      go_wp2_with (go_at_call 136; refine (swap_w _ g n c f1 (m - i) m j _ _ _ (by omega) rfl rfl hn (by omega) (by omega) (by omega) hA.out _ rfl).mono ?_; rintro e w1 ⟨rfl, hA1, hO1⟩; replace hA := Aside0.mk hA1; replace hO := Aside0.mk (hO.out.trans hO1); clear hA1 hO1)
      go_roundg k1
      case measure => omega
      case rel => exact ⟨i - j, j, _, by congr 1; omega, rfl, by omega, hj, by omega, hjm, by omega, ⟨hs.out.trans hR.out⟩, hA, hO⟩
end Go.Proofs.Ytllepjhimkogjaa.Rw
namespace Go.Proofs.Ytllepjhimkogjaa.Rw
open Go.Proofs.Ytllepjhimkogjaa.Sk
set_option linter.unusedSimpArgs false
set_option linter.unusedVariables false
def kc (x y : E) : Int := cb x.f0 y.f0
theorem kc_swap (x y : E) : kc y x = - kc x y := cb_cmp.swap _ _
theorem kc_range (x y : E) : kc x y = -1 ∨ kc x y = 0 ∨ kc x y = 1 := cb_cmp.range _ _
theorem kc_trans {x y z : E} (h : kc x y ≤ 0) (k : kc y z ≤ 0) : kc x z ≤ 0 := cb_cmp.le_trans h k
theorem kc_lt {x y z : E} (h : kc x y < 0) (k : kc y z ≤ 0) : kc x z < 0 := by
  have h2 := kc_trans (by omega : kc x y ≤ 0) k
  rcases Int.lt_or_eq_of_le h2 with e | e
  · exact e
  · have e2 : x.f0 = z.f0 := cb_cmp.zero _ _ e
    have h3 : kc y x ≤ 0 := by
      have : kc y x = kc y z := by unfold kc; rw [e2]
      omega
    have := kc_swap x y; omega
theorem kc_lt' {x y z : E} (h : kc x y ≤ 0) (k : kc y z < 0) : kc x z < 0 := by
  have h2 := kc_trans h (by omega : kc y z ≤ 0)
  rcases Int.lt_or_eq_of_le h2 with e | e
  · exact e
  · have e2 : x.f0 = z.f0 := cb_cmp.zero _ _ e
    have h3 : kc z y ≤ 0 := by
      have : kc z y = kc x y := by unfold kc; rw [e2]
      omega
    have := kc_swap y z; omega
variable (F : Nat → E)
def L (p q : Nat) : Prop := kc (F p) (F q) < 0 ∨ (kc (F p) (F q) = 0 ∧ p < q)
theorem L_le {p q : Nat} (h : L F p q) : kc (F p) (F q) ≤ 0 := by rcases h with h | ⟨h, _⟩ <;> omega
theorem L_trans {p q r : Nat} (h : L F p q) (k : L F q r) : L F p r := by
  rcases h with h | ⟨h, h2⟩
  · exact Or.inl (kc_lt h (L_le F k))
  · rcases k with k | ⟨k, k2⟩
    · exact Or.inl (kc_lt' (by omega) k)
    · have h3 := kc_trans (by omega : kc (F p) (F q) ≤ 0) (by omega : kc (F q) (F r) ≤ 0)
      rcases Int.lt_or_eq_of_le h3 with e | e
      · exact Or.inl e
      · exact Or.inr ⟨e, by omega⟩
theorem L_irrefl (p : Nat) : ¬ L F p p := by
  rintro (h | ⟨_, h⟩)
  · have := kc_swap (F p) (F p); omega
  · omega
theorem L_of_ge {p q : Nat} (h : ¬ kc (F q) (F p) < 0) (hpq : p < q) : L F p q := by
  have := kc_swap (F p) (F q)
  have hr := kc_range (F p) (F q)
  unfold L
  rcases hr with e | e | e <;> omega
def Srt (s : Nat → Nat) (a b : Nat) : Prop := ∀ i j, a ≤ i → i < j → j < b → L F (s i) (s j)
def Same (s s' : Nat → Nat) (a b : Nat) : Prop := (∀ x, a ≤ x → x < b → ∃ y, a ≤ y ∧ y < b ∧ s' x = s y) ∧ (∀ y, a ≤ y → y < b → ∃ x, a ≤ x ∧ x < b ∧ s' x = s y) ∧ (∀ x, ¬ (a ≤ x ∧ x < b) → s' x = s x)
theorem Same.refl (s : Nat → Nat) (a b : Nat) : Same s s a b := ⟨fun x h k => ⟨x, h, k, rfl⟩, fun x h k => ⟨x, h, k, rfl⟩, fun _ _ => rfl⟩
theorem Same.trans {s t u : Nat → Nat} {a b : Nat} (h : Same s t a b) (k : Same t u a b) : Same s u a b := by
  refine ⟨fun x hx hx2 => ?_, fun y hy hy2 => ?_, fun x hx => (k.2.2 x hx).trans (h.2.2 x hx)⟩
  · obtain ⟨y, h1, h2, e⟩ := k.1 x hx hx2
    obtain ⟨z, h3, h4, e2⟩ := h.1 y h1 h2
    exact ⟨z, h3, h4, e.trans e2⟩
  · obtain ⟨x, h1, h2, e⟩ := h.2.1 y hy hy2
    obtain ⟨z, h3, h4, e2⟩ := k.2.1 x h1 h2
    exact ⟨z, h3, h4, e2.trans e⟩
theorem Same.widen {s t : Nat → Nat} {a b a' b' : Nat} (h : Same s t a b) (ha : a' ≤ a) (hb : b ≤ b') : Same s t a' b' := by
  refine ⟨fun x hx hx2 => ?_, fun y hy hy2 => ?_, fun x hx => h.2.2 x (by omega)⟩
  · by_cases c : a ≤ x ∧ x < b
    · obtain ⟨y, h1, h2, e⟩ := h.1 x c.1 c.2
      exact ⟨y, by omega, by omega, e⟩
    · exact ⟨x, hx, hx2, h.2.2 x c⟩
  · by_cases c : a ≤ y ∧ y < b
    · obtain ⟨x, h1, h2, e⟩ := h.2.1 y c.1 c.2
      exact ⟨x, by omega, by omega, e⟩
    · exact ⟨y, hy, hy2, h.2.2 y c⟩
def rotN (s : Nat → Nat) (a m b : Nat) : Nat → Nat := fun x => if a ≤ x ∧ x < a + (b - m) then s (x + (m - a)) else if a + (b - m) ≤ x ∧ x < b then s (x - (b - m)) else s x
theorem rot_F (s : Nat → Nat) (a m b : Nat) : rot (fun x => F (s x)) a m b = fun x => F (rotN s a m b x) := by
  funext x
  unfold rot rotN
  split
  · rfl
  · split <;> rfl
theorem rotN_lo {s : Nat → Nat} {a m b x : Nat} (h1 : a ≤ x) (h2 : x < a + (b - m)) : rotN s a m b x = s (x + (m - a)) := by unfold rotN; rw [if_pos ⟨h1, h2⟩]
theorem rotN_hi {s : Nat → Nat} {a m b x : Nat} (h1 : a + (b - m) ≤ x) (h2 : x < b) : rotN s a m b x = s (x - (b - m)) := by unfold rotN; rw [if_neg (by omega), if_pos ⟨h1, h2⟩]
theorem rotN_off {s : Nat → Nat} {a m b x : Nat} (ham : a ≤ m) (hmb : m ≤ b) (h : ¬ (a ≤ x ∧ x < b)) : rotN s a m b x = s x := by unfold rotN; rw [if_neg (by omega), if_neg (by omega)]
theorem rotN_same (s : Nat → Nat) (a m b : Nat) (ham : a ≤ m) (hmb : m ≤ b) : Same s (rotN s a m b) a b := by
  refine ⟨fun x hx hx2 => ?_, fun y hy hy2 => ?_, fun x hx => rotN_off ham hmb hx⟩
  · by_cases c : x < a + (b - m)
    · exact ⟨x + (m - a), by omega, by omega, rotN_lo hx c⟩
    · exact ⟨x - (b - m), by omega, by omega, rotN_hi (by omega) hx2⟩
  · by_cases c : y < m
    · refine ⟨y + (b - m), by omega, by omega, ?_⟩
      rw [rotN_hi (by omega) (by omega)]; congr 1; omega
    · refine ⟨y - (m - a), by omega, by omega, ?_⟩
      rw [rotN_lo (by omega) (by omega)]; congr 1; omega
theorem rotN_id (s : Nat → Nat) (a m b : Nat) (h : a = m ∨ m = b) (ham : a ≤ m) (hmb : m ≤ b) : rotN s a m b = s := by
  funext x
  unfold rotN
  by_cases c : a ≤ x ∧ x < a + (b - m)
  · rw [if_pos c]; congr 1; omega
  · rw [if_neg c]
    by_cases d : a + (b - m) ≤ x ∧ x < b
    · rw [if_pos d]; congr 1; omega
    · rw [if_neg d]
structure Pre (s : Nat → Nat) (a m b : Nat) : Prop where
  am : a ≤ m
  mb : m ≤ b
  l : Srt F s a m
  r : Srt F s m b
  x : ∀ i j, a ≤ i → i < m → m ≤ j → j < b → s i < s j
variable {F}
theorem Pre.merged {s : Nat → Nat} {a m b : Nat} (h : Pre F s a m b) (he : a = m ∨ m = b) : Srt F s a b := by
  rcases he with e | e
  · rw [e]; exact h.r
  · rw [← e]; exact h.l
theorem Srt.join {s : Nat → Nat} {a m b : Nat} (h : Srt F s a m) (k : Srt F s m b) (x : ∀ i j, a ≤ i → i < m → m ≤ j → j < b → L F (s i) (s j)) : Srt F s a b := by
  intro i j hi hij hj
  by_cases c : j < m
  · exact h i j hi hij c
  · by_cases d : i < m
    · exact x i j hi d (by omega) hj
    · exact k i j (by omega) hij hj
structure Cut (F : Nat → E) (s : Nat → Nat) (a m b st en : Nat) : Prop where
  ast : a ≤ st
  stm : st ≤ m
  men : m ≤ en
  enb : en ≤ b
  lo : a < st → en < b → ¬ kc (F (s en)) (F (s (st - 1))) < 0
  hi : st < m → m < en → kc (F (s (en - 1))) (F (s st)) < 0
section
variable {s : Nat → Nat} {a m b st en : Nat}
theorem Srt.le (h : Srt F s a b) {i j : Nat} (hi : a ≤ i) (hij : i ≤ j) (hj : j < b) : kc (F (s i)) (F (s j)) ≤ 0 := by
  rcases Nat.lt_or_eq_of_le hij with e | e
  · exact L_le F (h i j hi e hj)
  · subst e; have := kc_swap (F (s i)) (F (s i)); omega
theorem Cut.cross (c : Cut F s a m b st en) (h : Pre F s a m b) : ∀ i j, ((a ≤ i ∧ i < st) ∨ (m ≤ i ∧ i < en)) → ((st ≤ j ∧ j < m) ∨ (en ≤ j ∧ j < b)) → L F (s i) (s j) := by
  intro i j hi hj
  rcases hi with hi | hi
  · rcases hj with hj | hj
    · exact h.l i j hi.1 (by omega) hj.2
    · have hlo := c.lo (by omega) (by omega)
      refine L_of_ge F ?_ (h.x i j hi.1 (by have := c.stm; omega) (by have := c.men; omega) hj.2)
      have h1 : kc (F (s i)) (F (s (st - 1))) ≤ 0 := h.l.le hi.1 (by omega) (by have := c.stm; omega)
      have h2 : kc (F (s en)) (F (s j)) ≤ 0 := h.r.le (by have := c.men; omega) hj.1 hj.2
      have h3 : kc (F (s (st - 1))) (F (s en)) ≤ 0 := by have := kc_swap (F (s en)) (F (s (st - 1))); omega
      have h4 := kc_trans h1 (kc_trans h3 h2)
      have := kc_swap (F (s i)) (F (s j)); omega
  · rcases hj with hj | hj
    · have hhi := c.hi (by omega) (by omega)
      have h1 : kc (F (s i)) (F (s (en - 1))) ≤ 0 := h.r.le hi.1 (by omega) (by have := c.enb; omega)
      have h2 : kc (F (s st)) (F (s j)) ≤ 0 := h.l.le c.ast hj.1 hj.2
      exact Or.inl (kc_lt' h1 (kc_lt hhi h2))
    · exact h.r i j hi.1 (by omega) hj.2
theorem Cut.halves (c : Cut F s a m b st en) (h : Pre F s a m b) : Pre F (rotN s st m en) a st (st + (en - m)) ∧ Pre F (rotN s st m en) (st + (en - m)) en b := by
  have hc := c
  obtain ⟨h1, h2, h3, h4, _, _⟩ := c
  refine ⟨⟨h1, by omega, fun i j hi hij hj => ?_, fun i j hi hij hj => ?_, fun i j hi him hj hjb => ?_⟩, ⟨by omega, h4, fun i j hi hij hj => ?_, fun i j hi hij hj => ?_, fun i j hi him hj hjb => ?_⟩⟩
  · rw [rotN_off h2 h3 (by omega), rotN_off h2 h3 (by omega)]; exact h.l i j hi hij (by omega)
  · rw [rotN_lo (by omega) (by omega), rotN_lo (by omega) (by omega)]; exact h.r _ _ (by omega) (by omega) (by omega)
  · rw [rotN_off h2 h3 (by omega), rotN_lo (by omega) (by omega)]; exact h.x _ _ hi (by omega) (by omega) (by omega)
  · rw [rotN_hi (by omega) (by omega), rotN_hi (by omega) (by omega)]; exact h.l _ _ (by omega) (by omega) (by omega)
  · rw [rotN_off h2 h3 (by omega), rotN_off h2 h3 (by omega)]; exact h.r i j (by omega) hij hj
  · rw [rotN_hi (by omega) (by omega), rotN_off h2 h3 (by omega)]; exact h.x _ _ (by omega) (by omega) (by omega) (by omega)
theorem Cut.from_lo (c : Cut F s a m b st en) {i : Nat} (hi : a ≤ i) (h2 : i < st + (en - m)) : ∃ y, ((a ≤ y ∧ y < st) ∨ (m ≤ y ∧ y < en)) ∧ rotN s st m en i = s y := by
  obtain ⟨h1, h2', h3, h4, _, _⟩ := c
  by_cases d : i < st
  · exact ⟨i, Or.inl ⟨hi, d⟩, rotN_off h2' h3 (by omega)⟩
  · exact ⟨i + (m - st), Or.inr (by omega), rotN_lo (by omega) (by omega)⟩
theorem Cut.from_hi (c : Cut F s a m b st en) {i : Nat} (hi : st + (en - m) ≤ i) (h2 : i < b) : ∃ y, ((st ≤ y ∧ y < m) ∨ (en ≤ y ∧ y < b)) ∧ rotN s st m en i = s y := by
  obtain ⟨h1, h2', h3, h4, _, _⟩ := c
  by_cases d : i < en
  · exact ⟨i - (en - m), Or.inl (by omega), rotN_hi (by omega) (by omega)⟩
  · exact ⟨i, Or.inr (by omega), rotN_off h2' h3 (by omega)⟩
theorem Cut.whole (c : Cut F s a m b st en) (h : Pre F s a m b) {t u : Nat → Nat} (h1 : Same (rotN s st m en) t a (st + (en - m))) (s1 : Srt F t a (st + (en - m))) (h2 : Same t u (st + (en - m)) b) (s2 : Srt F u (st + (en - m)) b) :
    Same s u a b ∧ Srt F u a b := by
  have hc := c
  obtain ⟨q1, q2, q3, q4, _, _⟩ := c
  refine ⟨(((rotN_same s st m en q2 q3).widen q1 q4).trans (h1.widen (Nat.le_refl _) (by omega))).trans (h2.widen (by omega) (Nat.le_refl _)), ?_⟩
  have ulo : ∀ i, a ≤ i → i < st + (en - m) → u i = t i := fun i hi hi2 => h2.2.2 i (by omega)
  refine Srt.join (m := st + (en - m)) (fun i j hi hij hj => ?_) s2 (fun i j hi him hj hjb => ?_)
  · rw [ulo i hi (by omega), ulo j (by omega) hj]; exact s1 i j hi hij hj
  · rw [ulo i hi him]
    obtain ⟨y, hy1, hy2, ey⟩ := h1.1 i hi him
    obtain ⟨z, hz, ez⟩ := hc.from_lo hy1 hy2
    obtain ⟨y', hy1', hy2', ey'⟩ := h2.1 j hj hjb
    rw [h1.2.2 y' (by omega)] at ey'
    obtain ⟨z', hz', ez'⟩ := hc.from_hi hy1' hy2'
    rw [ey, ez, ey', ez']
    exact hc.cross h z z' hz hz'
end
end Go.Proofs.Ytllepjhimkogjaa.Rw
namespace Go.Proofs.Ytllepjhimkogjaa.Rw
open Go.RowKit Go.Proofs.Ytllepjhimkogjaa.Ob Go.Proofs.YtllepjhimkogjaaW.PrintWords Go.Proofs.YtllepjhimkogjaaW.PrintLast Go.Proofs.Ytllepjhimkogjaa.Two
set_option linter.unusedSimpArgs false
set_option linter.unusedVariables false
theorem kc_calls (x y : E) (W : World) : Calls Try.prog 61 #[.agg #[.string x.f0, .int .i64 x.f1.f0, .int .i64 x.f1.f1, .string x.f1.f2], .agg #[.string y.f0, .int .i64 y.f1.f0, .int .i64 y.f1.f1, .string y.f1.f2]] W fun e w' => e = .returned (.int .i64 (kc x y)) ∧ Below W.heap.size W w' :=
  XSq.span_Alike_1.calls _ _ _ _ _ _ _ _ _ W rfl
theorem goesV_ {P : Program} {ops : Array Oper} {Q : Exit → Act → World → Prop} {oi : Oper} {N : Option Tmp} {a : Act} {w : World} {K : Act → World → Prop} {f : FuncId} {fn : Func} {c : Operand} {ars : Array Operand} {ts : Array TypeId} (hf : P.funcs[f]? = some fn) (hname : (fn.name == "runtime.NumGoroutine") = false) (hb : fn.body.isSome = true) (args : Array Value)
    (hw : Region.wanted oi (yielded ops a.tmps) = true) (hN : oi.dst = N) (hop : oi.op = .call { callee := .value c, args := ars, argTypes := ts }) (hc : a.eval c = .func (.func f) #[] #[]) (hargs : ars.map a.eval = args)
    (h : Calls P f args w fun e w' => ∃ v, e = .returned v ∧ K (a.put N v) w') : if Region.wanted oi (yielded ops a.tmps) = true then Oper.wp P oi a w K Q else K (a.put N undef) w := by
  refine call_ f args hw hN ?_ h
  have he := enters_ hf hname hb args w
  unfold execOp
  simp [hop, resolve, Deferred.ofValue, invoke, hc, hargs, he]
set_option maxHeartbeats 1000000 in
theorem exec_index {a : Act} {o : Oper} {w : World} (x y : Operand) (ho : o.op = .indexAddr 38 x y) (g n c q : Nat) (hx : a.eval x = .slice (some ⟨g, 0, none⟩) n c) (hy : a.eval y = .int .i64 (q : Int)) (hq : q < n) :
    (execOp a.eval o).run Try.prog w = .ok (.value (.pointer (some ⟨g, q * 4, none⟩))) w := by
  have h0 : (0 : Int) ≤ (q : Int) := by omega
  have h1 : (q : Int) < (n : Int) := by omega
  unfold execOp
  simp only [ho, hx, hy]
  go_simp
structure Sv (w W : World) (g n : Nat) (f : Nat → E) : Prop where
  a : At W g n f
  o : Only (fun q => q = g) w W
theorem Sv.keep {w W W' : World} {g n : Nat} {f : Nat → E} (h : Sv w W g n f) (k : Below W.heap.size W W') : Sv w W' g n f := ⟨h.a.keep k, h.o.trans ((Two.below_only0 k).mono fun _ e => e.elim)⟩
theorem Sv.drew {w W : World} {g n : Nat} {f : Nat → E} (h : Sv w W g n f) : Sv w W.drew g n f := ⟨h.a, h.o.drew⟩
theorem At.cells {W : World} {g n : Nat} {f : Nat → E} (h : At W g n f) (i : Nat) (hi : i < n) : ∀ j v, (cells4 (f i))[j]? = some v → W.cell? ⟨g, i * 4 + j, none⟩ = some v := by
  intro j v hv
  obtain ⟨h0, h1, h2, h3⟩ := h.get i hi
  match j, hv with
  | 0, hv => obtain rfl := Option.some.inj hv; exact h0.1
  | 1, hv => obtain rfl := Option.some.inj hv; exact h1.1
  | 2, hv => obtain rfl := Option.some.inj hv; exact h2.1
  | 3, hv => obtain rfl := Option.some.inj hv; exact h3.1
theorem exec_elem {a : Act} {o : Oper} {w : World} (x : Operand) (ho : o.op = .load 51 x) (g n q : Nat) (f : Nat → E) (hx : a.eval x = .pointer (some ⟨g, q * 4, none⟩)) (hA : At w g n f) (hq : q < n) :
    (execOp a.eval o).run Try.prog w = .ok (.value (.agg #[.string (f q).f0, .int .i64 (f q).f1.f0, .int .i64 (f q).f1.f1, .string (f q).f1.f2])) w :=
  exec_load_at 51 x ho g (q * 4) hx (cells4 (f q)) _ (hA.cells q hq) Try.underlying51 rfl (by kernel_rfl)
end Go.Proofs.Ytllepjhimkogjaa.Rw
namespace Go.Proofs.Ytllepjhimkogjaa.Rw
set_option linter.unusedSimpArgs false
set_option linter.unusedVariables false
theorem sw_F (F : Nat → E) (t u : Nat → Nat) (i j : Nat) (h : ∀ x, (if x = j then t i else if x = i then t j else t x) = u x) : upd (upd (fun x => F (t x)) i (F (t j))) j (F (t i)) = fun x => F (u x) := by
  funext x
  unfold upd
  rw [← h x]
  by_cases e1 : x = j
  · rw [if_pos e1, if_pos e1]
  · rw [if_neg e1, if_neg e1]
    by_cases e2 : x = i
    · rw [if_pos e2, if_pos e2]
    · rw [if_neg e2, if_neg e2]
theorem rot_up (s : Nat → Nat) (a k : Nat) (h : a ≤ k) : ∀ x, (if x = k + 1 then rotN s a (a + 1) (k + 1) k else if x = k then rotN s a (a + 1) (k + 1) (k + 1) else rotN s a (a + 1) (k + 1) x) = rotN s a (a + 1) (k + 2) x := by
  intro x
  by_cases e1 : x = k + 1
  · rw [if_pos e1, rotN_hi (by omega) (by omega), rotN_hi (by omega) (by omega)]; congr 1; omega
  · rw [if_neg e1]
    by_cases e2 : x = k
    · rw [if_pos e2, rotN_off (by omega) (by omega) (by omega), rotN_lo (by omega) (by omega)]; congr 1; omega
    · rw [if_neg e2]
      by_cases e3 : a ≤ x ∧ x < k
      · rw [rotN_lo (by omega) (by omega), rotN_lo (by omega) (by omega)]
      · rw [rotN_off (by omega) (by omega) (by omega), rotN_off (by omega) (by omega) (by omega)]
theorem rot_dn (s : Nat → Nat) (m k : Nat) (h : k + 1 ≤ m) : ∀ x, (if x = k then rotN s (k + 1) m (m + 1) (k + 1) else if x = k + 1 then rotN s (k + 1) m (m + 1) k else rotN s (k + 1) m (m + 1) x) = rotN s k m (m + 1) x := by
  intro x
  by_cases e1 : x = k
  · rw [if_pos e1, rotN_lo (by omega) (by omega), rotN_lo (by omega) (by omega)]; congr 1; omega
  · rw [if_neg e1]
    by_cases e2 : x = k + 1
    · rw [if_pos e2, rotN_off (by omega) (by omega) (by omega), rotN_hi (by omega) (by omega)]; congr 1; omega
    · rw [if_neg e2]
      by_cases e3 : k + 1 < x ∧ x < m + 1
      · rw [rotN_hi (by omega) (by omega), rotN_hi (by omega) (by omega)]
      · rw [rotN_off (by omega) (by omega) (by omega), rotN_off (by omega) (by omega) (by omega)]
variable {F : Nat → E} {s : Nat → Nat} {a m b i : Nat}
theorem one_left (h : Pre F s a (a + 1) b) (hi : a + 1 ≤ i) (hib : i ≤ b) (h1 : a + 1 < i → kc (F (s (i - 1))) (F (s a)) < 0) (h2 : i < b → ¬ kc (F (s i)) (F (s a)) < 0) :
    Same s (rotN s a (a + 1) i) a b ∧ Srt F (rotN s a (a + 1) i) a b := by
  refine ⟨(rotN_same s a (a + 1) i (by omega) hi).widen (Nat.le_refl _) hib, ?_⟩
  intro p q hp hpq hq
  have hmov : ∀ y, a + 1 ≤ y → y < i → L F (s y) (s a) := fun y hy hy2 => by
    have h3 := h.r.le hy (show y ≤ i - 1 by omega) (by omega)
    exact Or.inl (kc_lt' h3 (h1 (by omega)))
  have hstay : ∀ y, i ≤ y → y < b → L F (s a) (s y) := fun y hy hy2 => by
    have h3 := h.r.le (show a + 1 ≤ i by omega) hy hy2
    have h4 := h2 (by omega)
    refine L_of_ge F (fun e => ?_) (h.x a y (Nat.le_refl _) (by omega) (by omega) hy2)
    exact h4 (by have := kc_lt' h3 e; exact this)
  have e : ∀ x, a ≤ x → x < b → rotN s a (a + 1) i x = if x + 1 < i then s (x + 1) else if x + 1 = i then s a else s x := fun x hx hx2 => by
    by_cases c1 : x + 1 < i
    · rw [if_pos c1, rotN_lo (by omega) (by omega)]; congr 1; omega
    · rw [if_neg c1]
      by_cases c2 : x + 1 = i
      · rw [if_pos c2, rotN_hi (by omega) (by omega)]; congr 1; omega
      · rw [if_neg c2, rotN_off (by omega) (by omega) (by omega)]
  rw [e p hp (by omega), e q (by omega) hq]
  by_cases c1 : p + 1 < i
  · rw [if_pos c1]
    by_cases c2 : q + 1 < i
    · rw [if_pos c2]; exact h.r _ _ (by omega) (by omega) (by omega)
    · rw [if_neg c2]
      by_cases c3 : q + 1 = i
      · rw [if_pos c3]; exact hmov _ (by omega) c1
      · rw [if_neg c3]; exact h.r _ _ (by omega) (by omega) hq
  · rw [if_neg c1]
    by_cases c2 : p + 1 = i
    · rw [if_pos c2, if_neg (by omega), if_neg (by omega)]; exact hstay _ (by omega) hq
    · rw [if_neg c2, if_neg (by omega), if_neg (by omega)]; exact h.r _ _ (by omega) hpq hq
theorem one_right (h : Pre F s a m (m + 1)) (hi : a ≤ i) (him : i ≤ m) (h1 : a < i → ¬ kc (F (s m)) (F (s (i - 1))) < 0) (h2 : i < m → kc (F (s m)) (F (s i)) < 0) :
    Same s (rotN s i m (m + 1)) a (m + 1) ∧ Srt F (rotN s i m (m + 1)) a (m + 1) := by
  refine ⟨(rotN_same s i m (m + 1) him (by omega)).widen hi (Nat.le_refl _), ?_⟩
  intro p q hp hpq hq
  have hstay : ∀ y, a ≤ y → y < i → L F (s y) (s m) := fun y hy hy2 => by
    have h3 := h.l.le hy (show y ≤ i - 1 by omega) (by omega)
    have h4 := h1 (by omega)
    refine L_of_ge F (fun e => ?_) (h.x y m hy (by omega) (Nat.le_refl _) (by omega))
    exact h4 (kc_lt e h3)
  have hmov : ∀ y, i ≤ y → y < m → L F (s m) (s y) := fun y hy hy2 => by
    have h3 := h.l.le hi hy hy2
    exact Or.inl (kc_lt (h2 (by omega)) h3)
  have e : ∀ x, a ≤ x → x < m + 1 → rotN s i m (m + 1) x = if x < i then s x else if x = i then s m else s (x - 1) := fun x hx hx2 => by
    by_cases c1 : x < i
    · rw [if_pos c1, rotN_off him (by omega) (by omega)]
    · rw [if_neg c1]
      by_cases c2 : x = i
      · rw [if_pos c2, rotN_lo (by omega) (by omega)]; congr 1; omega
      · rw [if_neg c2, rotN_hi (by omega) (by omega)]; congr 1; omega
  rw [e p hp (by omega), e q (by omega) hq]
  by_cases c1 : p < i
  · rw [if_pos c1]
    by_cases c2 : q < i
    · rw [if_pos c2]; exact h.l _ _ hp hpq (by omega)
    · rw [if_neg c2]
      by_cases c3 : q = i
      · rw [if_pos c3]; exact hstay _ hp c1
      · rw [if_neg c3]; exact h.l _ _ hp (by omega) (by omega)
  · rw [if_neg c1]
    by_cases c2 : p = i
    · rw [if_pos c2, if_neg (by omega), if_neg (by omega)]; exact hmov _ (by omega) (by omega)
    · rw [if_neg c2, if_neg (by omega), if_neg (by omega)]; exact h.l _ _ (by omega) (by omega) (by omega)
end Go.Proofs.Ytllepjhimkogjaa.Rw
namespace Go.Proofs.Ytllepjhimkogjaa.Rw
open Go.RowKit Go.Proofs.Ytllepjhimkogjaa.Ob Go.Proofs.YtllepjhimkogjaaW.PrintWords Go.Proofs.YtllepjhimkogjaaW.PrintLast Go.Proofs.Ytllepjhimkogjaa.Two
set_option linter.unusedSimpArgs false
set_option linter.unusedVariables false
theorem kc_w (x y : E) (W : World) (r : Int) (hr : kc x y = r) : Calls Try.prog 61 #[.agg #[.string (x).f0, .int .i64 (x).f1.f0, .int .i64 (x).f1.f1, .string (x).f1.f2], .agg #[.string (y).f0, .int .i64 (y).f1.f0, .int .i64 (y).f1.f1, .string (y).f1.f2]] W fun e w' => e = .returned (.int .i64 r) ∧ Below W.heap.size W w' := by
  subst hr; exact kc_calls x y W
def Merged (F : Nat → E) (s : Nat → Nat) (a b g n : Nat) (w : World) (e : Ending) (w' : World) : Prop := e = .returned (.tuple #[]) ∧ ∃ t : Nat → Nat, At w' g n (fun x => F (t x)) ∧ Same s t a b ∧ Srt F t a b ∧ Only (fun q => q = g) w w'
set_option maxHeartbeats 8000000 in
set_option maxRecDepth 1000000 in
theorem sym_left (w : World) (g n c : Nat) (F : Nat → E) (s : Nat → Nat) (a m b : Nat) (hn : n ≤ 1000) (hb : b ≤ n) (hm : a + 1 = m) (hmb : m ≤ b) (hP : Pre F s a m b) (hA : At w g n (fun x => F (s x))) :
    Calls Try.prog 116 #[.slice (some ⟨g, 0, none⟩) n c, .int .i64 (a : Int), .int .i64 (m : Int), .int .i64 (b : Int), .func (.func 61) #[] #[]] w (Merged F s a b g n w) := by
  have hS := Aside0.mk (Sv.mk hA (Only.refl (fun q => q = g) w))
  clear hA
  have hI : (m : Int) - (a : Int) = 1 := by omega
  replace hP := Aside0.mk hP
  go_enter Try.func116, Try.ntmps116
  go_wp2
  clear hI
  go_loopg [10, 11] (b + 1) (fun kq v10 v11 wr => ∃ i j : Nat, v10 = .int .i64 (i : Int) ∧ v11 = .int .i64 (j : Int) ∧ m ≤ i ∧ i ≤ j ∧ j ≤ b ∧ j - i < kq ∧ Aside0 ((m < i → kc (F (s (i - 1))) (F (s a)) < 0) ∧ (j < b → ¬ kc (F (s j)) (F (s a)) < 0)) ∧ Aside0 (Sv w wr g n (fun x => F (s x))))
  case atStart => exact ⟨m, b, rfl, rfl, by omega, by omega, by omega, by omega, ⟨fun h => absurd h (by omega), fun h => absurd h (by omega)⟩, hS⟩
  case round =>
    clear hS
    obtain ⟨i, j, rfl, rfl, hi, hij, hj, hk, hB, hS⟩ := hrel
    obtain ⟨k1, rfl⟩ : ∃ m, gk = m + 1 := ⟨gk - 1, by omega⟩
    by_cases hlt : i < j
    · have hltI : (i : Int) < (j : Int) := by omega
      obtain ⟨h, hh⟩ : ∃ h : Nat, (i + j) / 2 = h := ⟨_, rfl⟩
      have hhI : ((i : Int) + (j : Int)) / 2 = (h : Int) := by omega
      have hhi : i ≤ h := by omega
      have hhj : h < j := by omega
      replace hh := Aside0.mk hh
      obtain ⟨kv, hkv⟩ : ∃ kv, kc (F (s h)) (F (s a)) = kv := ⟨_, rfl⟩
      replace hkv := Aside0.mk hkv
      go_wp2
      have hS := hS.out.drew
      refine start_ (n := 11) (S := fun W => Sv w W g n (fun x => F (s x))) (ds := []) #[false, false, false, false, false, false, false, false, false, false, false] (by kernel_rfl) rfl rfl hS (fun hHeld => ?_)
      clear hS
      refine pure_ (i := 0) (N := some 40) (v := ?_) (a' := ?_) #[true, false, false, false, false, false, false, false, false, false, false] rfl rfl (by kernel_rfl) (fun _ _ _ h => h) (Or.inl ⟨by rfl, ?_⟩) ?_ ?_
      rotate_left
      · intro w'
        go_simp
        with_reducible rfl
      rotate_left
      · simp only [Act.put, List.setIfInBounds_toArray, List.set_cons_zero, List.set_cons_succ, i64_w, i32_w]
        rfl
      refine pure_ (i := 1) (N := some 41) (v := ?_) (a' := ?_) #[true, true, false, false, false, false, false, false, false, false, false] rfl rfl (by kernel_rfl) (fun _ _ _ h => h) (Or.inl ⟨by rfl, ?_⟩) ?_ ?_
      rotate_left
      · intro w'
        go_simp
        with_reducible rfl
      rotate_left
      · simp only [Act.put, List.setIfInBounds_toArray, List.set_cons_zero, List.set_cons_succ, i64_w, i32_w]
        rfl
      refine pure_ (i := 2) (N := some 42) (v := ?_) (a' := ?_) #[true, true, true, false, false, false, false, false, false, false, false] rfl rfl (by kernel_rfl) (fun _ _ _ h => h) (Or.inl ⟨by rfl, ?_⟩) ?_ ?_
      rotate_left
      · intro w'
        go_simp
        with_reducible rfl
      rotate_left
      · simp only [Act.put, List.setIfInBounds_toArray, List.set_cons_zero, List.set_cons_succ, i64_w, i32_w]
        rfl
      refine pure_ (i := 3) (N := some 43) (v := ?_) (a' := ?_) #[true, true, true, true, false, false, false, false, false, false, false] rfl rfl (by kernel_rfl) (fun _ _ _ h => h) (Or.inl ⟨by rfl, ?_⟩) ?_ ?_
      rotate_left
      · intro w'
        refine exec_index (.tmp 41) (.tmp 42) ?_ g n c h ?_ ?_ ?_
        · rfl
        · rfl
        · rfl
        · omega
      rotate_left
      · simp only [Act.put, List.setIfInBounds_toArray, List.set_cons_zero, List.set_cons_succ, i64_w, i32_w]
        rfl
      refine pure_ (i := 5) (N := some 45) (v := ?_) (a' := ?_) #[true, true, true, true, false, true, false, false, false, false, false] rfl rfl (by kernel_rfl) (fun _ _ _ h => h) (Or.inl ⟨by rfl, ?_⟩) ?_ ?_
      rotate_left
      · intro w'
        go_simp
        with_reducible rfl
      rotate_left
      · simp only [Act.put, List.setIfInBounds_toArray, List.set_cons_zero, List.set_cons_succ, i64_w, i32_w]
        rfl
      refine pure_ (i := 6) (N := some 46) (v := ?_) (a' := ?_) #[true, true, true, true, false, true, true, false, false, false, false] rfl rfl (by kernel_rfl) (fun _ _ _ h => h) (Or.inl ⟨by rfl, ?_⟩) ?_ ?_
      rotate_left
      · intro w'
        go_simp
        with_reducible rfl
      rotate_left
      · simp only [Act.put, List.setIfInBounds_toArray, List.set_cons_zero, List.set_cons_succ, i64_w, i32_w]
        rfl
      refine pure_ (i := 7) (N := some 47) (v := ?_) (a' := ?_) #[true, true, true, true, false, true, true, true, false, false, false] rfl rfl (by kernel_rfl) (fun _ _ _ h => h) (Or.inl ⟨by rfl, ?_⟩) ?_ ?_
      rotate_left
      · intro w'
        refine exec_index (.tmp 45) (.tmp 46) ?_ g n c a ?_ ?_ ?_
        · rfl
        · rfl
        · rfl
        · omega
      rotate_left
      · simp only [Act.put, List.setIfInBounds_toArray, List.set_cons_zero, List.set_cons_succ, i64_w, i32_w]
        rfl
      refine take_ (i := 4) (N := some 44) (v := .agg #[.string ((fun x => F (s x)) h).f0, .int .i64 ((fun x => F (s x)) h).f1.f0, .int .i64 ((fun x => F (s x)) h).f1.f1, .string ((fun x => F (s x)) h).f1.f2]) (a' := ?_) #[true, true, true, true, true, true, true, true, false, false, false] rfl rfl (by kernel_rfl) (fun _ _ _ h => h) (Or.inl ⟨by rfl, ?_⟩) hHeld ?_ ?_
      · rintro w' hv'
        refine exec_elem (.tmp 43) ?_ g n h _ ?_ hv'.a ?_
        · rfl
        · rfl
        · omega
      rotate_left
      · simp only [Act.put, List.setIfInBounds_toArray, List.set_cons_zero, List.set_cons_succ, i64_w, i32_w]
        rfl
      refine take_ (i := 8) (N := some 48) (v := .agg #[.string ((fun x => F (s x)) a).f0, .int .i64 ((fun x => F (s x)) a).f1.f0, .int .i64 ((fun x => F (s x)) a).f1.f1, .string ((fun x => F (s x)) a).f1.f2]) (a' := ?_) #[true, true, true, true, true, true, true, true, true, false, false] rfl rfl (by kernel_rfl) (fun _ _ _ h => h) (Or.inl ⟨by rfl, ?_⟩) hHeld ?_ ?_
      · rintro w' hv'
        refine exec_elem (.tmp 47) ?_ g n a _ ?_ hv'.a ?_
        · rfl
        · rfl
        · omega
      rotate_left
      · simp only [Act.put, List.setIfInBounds_toArray, List.set_cons_zero, List.set_cons_succ, i64_w, i32_w]
        rfl
      refine one_ (i := 9) (N := some 49) #[true, true, true, true, true, true, true, true, true, true, false] rfl rfl (by kernel_rfl) (by decide) (fun K hK => ?_)
      refine goesV_ Try.func61 (by kernel_rfl) rfl #[.agg #[.string ((fun x => F (s x)) h).f0, .int .i64 ((fun x => F (s x)) h).f1.f0, .int .i64 ((fun x => F (s x)) h).f1.f1, .string ((fun x => F (s x)) h).f1.f2], .agg #[.string ((fun x => F (s x)) a).f0, .int .i64 ((fun x => F (s x)) a).f1.f0, .int .i64 ((fun x => F (s x)) a).f1.f1, .string ((fun x => F (s x)) a).f1.f2]] (by rfl) rfl rfl rfl (by (try simp only [List.map_toArray, List.map_cons, List.map_nil]); first | done | rfl) ?_
      refine (kc_w _ _ _ _ hkv.out).mono ?_
      rintro e w' ⟨rfl, hb⟩
      have hH2 := Aside0.mk (hHeld.keep hb)
      clear hb
      refine ⟨_, rfl, ?_⟩
      refine hK.out _ _ (hH2.out) (fun hHeld => ?_)
      clear hK K
      refine norm_ (a' := ?_) ?_ ?_
      rotate_left
      · show Act.put _ (some 49) _ = _
        simp only [Act.put, List.setIfInBounds_toArray, List.set_cons_zero, List.set_cons_succ, i64_w, i32_w]
        rfl
      refine pure_ (i := 10) (N := some 50) (v := ?_) (a' := ?_) #[true, true, true, true, true, true, true, true, true, true, true] rfl rfl (by kernel_rfl) (fun _ _ _ h => h) (Or.inl ⟨by rfl, ?_⟩) ?_ ?_
      rotate_left
      · intro w'
        go_simp
        with_reducible rfl
      rotate_left
      · simp only [Act.put, List.setIfInBounds_toArray, List.set_cons_zero, List.set_cons_succ, i64_w, i32_w]
        rfl
      refine done_ (by kernel_rfl) ?_
      replace hS := Aside0.mk hHeld
      clear hHeld
      by_cases hneg : kv < 0
      · have hI1 : IntKind.i64.wrap ((h : Int) + 1) = ((h + 1 : Nat) : Int) := by rw [IntWalk.i64_in _ (by omega)]; omega
        go_wp2
        go_roundg k1
        case measure => omega
        case rel => exact ⟨h + 1, j, rfl, rfl, by omega, by omega, by omega, by omega, ⟨fun _ => by rw [show h + 1 - 1 = h from rfl, hkv.out]; exact hneg, hB.out.2⟩, hS⟩
      · go_wp2
        go_roundg k1
        case measure => omega
        case rel => exact ⟨i, h, rfl, rfl, by omega, by omega, by omega, by omega, ⟨hB.out.1, fun _ => by rw [hkv.out]; exact hneg⟩, hS⟩
    · obtain rfl : i = j := by omega
      clear hk
      go_wp2
      go_loopg [13] (i + 1) (fun kq v13 wr => ∃ k : Nat, v13 = .int .i64 (k : Int) ∧ a ≤ k ∧ k + 1 ≤ i ∧ i - k < kq ∧ Aside0 (Sv w wr g n (fun x => F (rotN s a (a + 1) (k + 1) x))))
      case atStart => exact ⟨a, rfl, Nat.le_refl _, by omega, by omega, by rw [rotN_id _ _ _ _ (Or.inr rfl) (Nat.le_succ _) (Nat.le_refl _)]; exact hS⟩
      case round =>
        clear hS
        obtain ⟨k, rfl, hak, hki, hk, hS⟩ := hrel
        obtain ⟨k1, rfl⟩ : ∃ m, gk = m + 1 := ⟨gk - 1, by omega⟩
        obtain ⟨e, he⟩ : ∃ e, i - 1 = e := ⟨_, rfl⟩
        have hi1 : 1 ≤ i := by clear hB hP; omega
        have heI : IntKind.i64.wrap ((i : Int) - 1) = (e : Int) := by rw [IntWalk.i64_in _ (by omega)]; omega
        by_cases hke : k < e
        · have hkeI : (k : Int) < (e : Int) := by omega
          obtain ⟨q, hq⟩ : ∃ q : Nat, k + 1 = q := ⟨_, rfl⟩
          have hqI : IntKind.i64.wrap ((k : Int) + 1) = (q : Int) := by rw [IntWalk.i64_in _ (by omega)]; omega
          have hg : Aside0 (k + 1 + 1 ≤ i) := ⟨by omega⟩
          have hpq : k < q := by omega
          have hpn : k < n := by omega
          have hqn : q < n := by omega
          have p0 : (0 : Int) ≤ (k : Int) := by omega
          have q0 : (0 : Int) ≤ (q : Int) := by omega
          have p1 : (k : Int) < (n : Int) := by omega
          have q1 : (q : Int) < (n : Int) := by omega
          have hset := Aside0.mk (fun W (h : At W g n (fun x => F (rotN s a (a + 1) (k + 1) x))) => (h.put k (F (rotN s a (a + 1) (k + 1) q))).put q (F (rotN s a (a + 1) (k + 1) k)))
          obtain ⟨⟨a0, a0f⟩, ⟨a1, a1f⟩, ⟨a2, a2f⟩, ⟨a3, a3f⟩⟩ := hS.out.a.get k hpn
          obtain ⟨⟨b0, b0f⟩, ⟨b1, b1f⟩, ⟨b2, b2f⟩, ⟨b3, b3f⟩⟩ := hS.out.a.get q hqn
          have hsw : upd (upd (fun x => F (rotN s a (a + 1) (k + 1) x)) k (F (rotN s a (a + 1) (k + 1) q))) q (F (rotN s a (a + 1) (k + 1) k)) = fun x => F (rotN s a (a + 1) (q + 1) x) := by subst hq; exact sw_F F _ _ _ _ (rot_up s a k hak)
          rw [hsw] at hset
          clear hsw
          replace hq := Aside0.mk hq
          try dsimp only at a0 a1 a2 a3 a0f a1f a2f a3f b0 b1 b2 b3 b0f b1f b2f b3f
          generalize F (rotN s a (a + 1) (k + 1) q) = x at a0 a1 a2 a3 a0f a1f a2f a3f b0 b1 b2 b3 b0f b1f b2f b3f hset
          generalize F (rotN s a (a + 1) (k + 1) k) = y at a0 a1 a2 a3 a0f a1f a2f a3f b0 b1 b2 b3 b0f b1f b2f b3f hset
          replace he := Aside0.mk he
          go_wp2
          go_region
          go_wp2
          go_roundg k1
          case measure => have := hg.out; have := hq.out; omega
          case rel =>
            have := hg.out; have := hq.out
            exact ⟨q, rfl, by omega, by omega, by omega, ⟨⟨by subst this; exact (hset.out _ hS.out.a).drew, (only_put (only_put hS.out.o g rfl k x) g rfl q y).drew⟩⟩⟩
        · clear hk
          have hk2 : k + 1 = i := by omega
          have hkeI : ¬ ((k : Int) < (e : Int)) := by omega
          go_wp2
          go_end0
          subst hm
          have h2 := one_left hP.out (by omega) hj hB.out.1 (fun h => by have := hB.out.2 h; omega)
          rw [hk2] at hS
          exact ⟨rfl, _, hS.out.a, h2.1, h2.2, hS.out.o⟩
end Go.Proofs.Ytllepjhimkogjaa.Rw
namespace Go.Proofs.Ytllepjhimkogjaa.Rw
open Go.RowKit Go.Proofs.Ytllepjhimkogjaa.Ob Go.Proofs.YtllepjhimkogjaaW.PrintWords Go.Proofs.YtllepjhimkogjaaW.PrintLast Go.Proofs.Ytllepjhimkogjaa.Two
set_option linter.unusedSimpArgs false
set_option linter.unusedVariables false
set_option maxHeartbeats 8000000 in
set_option maxRecDepth 1000000 in
theorem sym_right (w : World) (g n c : Nat) (F : Nat → E) (s : Nat → Nat) (a m b : Nat) (hn : n ≤ 1000) (hb : b ≤ n) (hm : m + 1 = b) (ham : a ≤ m) (hne : a + 1 ≠ m) (hP : Pre F s a m b) (hA : At w g n (fun x => F (s x))) :
    Calls Try.prog 116 #[.slice (some ⟨g, 0, none⟩) n c, .int .i64 (a : Int), .int .i64 (m : Int), .int .i64 (b : Int), .func (.func 61) #[] #[]] w (Merged F s a b g n w) := by
  have hS := Aside0.mk (Sv.mk hA (Only.refl (fun q => q = g) w))
  clear hA
  have hI : ((m : Int) - (a : Int) == 1) = false := by rw [beq_eq_false_iff_ne]; omega
  have hJ : (b : Int) - (m : Int) = 1 := by omega
  replace hP := Aside0.mk hP
  go_enter Try.func116, Try.ntmps116
  go_wp2
  rename (((m : Int) - (a : Int) == 1) = false) => hz
  clear hJ hne hz
  go_loopg [14, 15] (m + 1) (fun kq v14 v15 wr => ∃ i j : Nat, v14 = .int .i64 (i : Int) ∧ v15 = .int .i64 (j : Int) ∧ a ≤ i ∧ i ≤ j ∧ j ≤ m ∧ j - i < kq ∧ Aside0 ((a < i → ¬ kc (F (s m)) (F (s (i - 1))) < 0) ∧ (j < m → kc (F (s m)) (F (s j)) < 0)) ∧ Aside0 (Sv w wr g n (fun x => F (s x))))
  case atStart => exact ⟨a, m, rfl, rfl, by omega, by omega, by omega, by omega, ⟨fun h => absurd h (by omega), fun h => absurd h (by omega)⟩, hS⟩
  case round =>
    clear hS
    obtain ⟨i, j, rfl, rfl, hi, hij, hj, hk, hB, hS⟩ := hrel
    obtain ⟨k1, rfl⟩ : ∃ m, gk = m + 1 := ⟨gk - 1, by omega⟩
    by_cases hlt : i < j
    · have hltI : (i : Int) < (j : Int) := by omega
      obtain ⟨h, hh⟩ : ∃ h : Nat, (i + j) / 2 = h := ⟨_, rfl⟩
      have hhI : ((i : Int) + (j : Int)) / 2 = (h : Int) := by omega
      have hhi : i ≤ h := by omega
      have hhj : h < j := by omega
      replace hh := Aside0.mk hh
      obtain ⟨kv, hkv⟩ : ∃ kv, kc (F (s m)) (F (s h)) = kv := ⟨_, rfl⟩
      replace hkv := Aside0.mk hkv
      go_wp2
      have hS := hS.out.drew
      refine start_ (n := 12) (S := fun W => Sv w W g n (fun x => F (s x))) (ds := []) #[false, false, false, false, false, false, false, false, false, false, false, false] (by kernel_rfl) rfl rfl hS (fun hHeld => ?_)
      clear hS
      refine pure_ (i := 0) (N := some 92) (v := ?_) (a' := ?_) #[true, false, false, false, false, false, false, false, false, false, false, false] rfl rfl (by kernel_rfl) (fun _ _ _ h => h) (Or.inl ⟨by rfl, ?_⟩) ?_ ?_
      rotate_left
      · intro w'
        go_simp
        with_reducible rfl
      rotate_left
      · simp only [Act.put, List.setIfInBounds_toArray, List.set_cons_zero, List.set_cons_succ, i64_w, i32_w]
        rfl
      refine pure_ (i := 1) (N := some 93) (v := ?_) (a' := ?_) #[true, true, false, false, false, false, false, false, false, false, false, false] rfl rfl (by kernel_rfl) (fun _ _ _ h => h) (Or.inl ⟨by rfl, ?_⟩) ?_ ?_
      rotate_left
      · intro w'
        go_simp
        with_reducible rfl
      rotate_left
      · simp only [Act.put, List.setIfInBounds_toArray, List.set_cons_zero, List.set_cons_succ, i64_w, i32_w]
        rfl
      refine pure_ (i := 2) (N := some 94) (v := ?_) (a' := ?_) #[true, true, true, false, false, false, false, false, false, false, false, false] rfl rfl (by kernel_rfl) (fun _ _ _ h => h) (Or.inl ⟨by rfl, ?_⟩) ?_ ?_
      rotate_left
      · intro w'
        go_simp
        with_reducible rfl
      rotate_left
      · simp only [Act.put, List.setIfInBounds_toArray, List.set_cons_zero, List.set_cons_succ, i64_w, i32_w]
        rfl
      refine pure_ (i := 3) (N := some 95) (v := ?_) (a' := ?_) #[true, true, true, true, false, false, false, false, false, false, false, false] rfl rfl (by kernel_rfl) (fun _ _ _ h => h) (Or.inl ⟨by rfl, ?_⟩) ?_ ?_
      rotate_left
      · intro w'
        refine exec_index (.tmp 93) (.tmp 94) ?_ g n c m ?_ ?_ ?_
        · rfl
        · rfl
        · rfl
        · omega
      rotate_left
      · simp only [Act.put, List.setIfInBounds_toArray, List.set_cons_zero, List.set_cons_succ, i64_w, i32_w]
        rfl
      refine pure_ (i := 5) (N := some 97) (v := ?_) (a' := ?_) #[true, true, true, true, false, true, false, false, false, false, false, false] rfl rfl (by kernel_rfl) (fun _ _ _ h => h) (Or.inl ⟨by rfl, ?_⟩) ?_ ?_
      rotate_left
      · intro w'
        go_simp
        with_reducible rfl
      rotate_left
      · simp only [Act.put, List.setIfInBounds_toArray, List.set_cons_zero, List.set_cons_succ, i64_w, i32_w]
        rfl
      refine pure_ (i := 6) (N := some 98) (v := ?_) (a' := ?_) #[true, true, true, true, false, true, true, false, false, false, false, false] rfl rfl (by kernel_rfl) (fun _ _ _ h => h) (Or.inl ⟨by rfl, ?_⟩) ?_ ?_
      rotate_left
      · intro w'
        go_simp
        with_reducible rfl
      rotate_left
      · simp only [Act.put, List.setIfInBounds_toArray, List.set_cons_zero, List.set_cons_succ, i64_w, i32_w]
        rfl
      refine pure_ (i := 7) (N := some 99) (v := ?_) (a' := ?_) #[true, true, true, true, false, true, true, true, false, false, false, false] rfl rfl (by kernel_rfl) (fun _ _ _ h => h) (Or.inl ⟨by rfl, ?_⟩) ?_ ?_
      rotate_left
      · intro w'
        refine exec_index (.tmp 97) (.tmp 98) ?_ g n c h ?_ ?_ ?_
        · rfl
        · rfl
        · rfl
        · omega
      rotate_left
      · simp only [Act.put, List.setIfInBounds_toArray, List.set_cons_zero, List.set_cons_succ, i64_w, i32_w]
        rfl
      refine take_ (i := 4) (N := some 96) (v := .agg #[.string ((fun x => F (s x)) m).f0, .int .i64 ((fun x => F (s x)) m).f1.f0, .int .i64 ((fun x => F (s x)) m).f1.f1, .string ((fun x => F (s x)) m).f1.f2]) (a' := ?_) #[true, true, true, true, true, true, true, true, false, false, false, false] rfl rfl (by kernel_rfl) (fun _ _ _ h => h) (Or.inl ⟨by rfl, ?_⟩) hHeld ?_ ?_
      · rintro w' hv'
        refine exec_elem (.tmp 95) ?_ g n m _ ?_ hv'.a ?_
        · rfl
        · rfl
        · omega
      rotate_left
      · simp only [Act.put, List.setIfInBounds_toArray, List.set_cons_zero, List.set_cons_succ, i64_w, i32_w]
        rfl
      refine take_ (i := 8) (N := some 100) (v := .agg #[.string ((fun x => F (s x)) h).f0, .int .i64 ((fun x => F (s x)) h).f1.f0, .int .i64 ((fun x => F (s x)) h).f1.f1, .string ((fun x => F (s x)) h).f1.f2]) (a' := ?_) #[true, true, true, true, true, true, true, true, true, false, false, false] rfl rfl (by kernel_rfl) (fun _ _ _ h => h) (Or.inl ⟨by rfl, ?_⟩) hHeld ?_ ?_
      · rintro w' hv'
        refine exec_elem (.tmp 99) ?_ g n h _ ?_ hv'.a ?_
        · rfl
        · rfl
        · omega
      rotate_left
      · simp only [Act.put, List.setIfInBounds_toArray, List.set_cons_zero, List.set_cons_succ, i64_w, i32_w]
        rfl
      refine one_ (i := 9) (N := some 101) #[true, true, true, true, true, true, true, true, true, true, false, false] rfl rfl (by kernel_rfl) (by decide) (fun K hK => ?_)
      refine goesV_ Try.func61 (by kernel_rfl) rfl #[.agg #[.string ((fun x => F (s x)) m).f0, .int .i64 ((fun x => F (s x)) m).f1.f0, .int .i64 ((fun x => F (s x)) m).f1.f1, .string ((fun x => F (s x)) m).f1.f2], .agg #[.string ((fun x => F (s x)) h).f0, .int .i64 ((fun x => F (s x)) h).f1.f0, .int .i64 ((fun x => F (s x)) h).f1.f1, .string ((fun x => F (s x)) h).f1.f2]] (by rfl) rfl rfl rfl (by (try simp only [List.map_toArray, List.map_cons, List.map_nil]); first | done | rfl) ?_
      refine (kc_w _ _ _ _ hkv.out).mono ?_
      rintro e w' ⟨rfl, hb⟩
      have hH2 := Aside0.mk (hHeld.keep hb)
      clear hb
      refine ⟨_, rfl, ?_⟩
      refine hK.out _ _ (hH2.out) (fun hHeld => ?_)
      clear hK K
      refine norm_ (a' := ?_) ?_ ?_
      rotate_left
      · show Act.put _ (some 101) _ = _
        simp only [Act.put, List.setIfInBounds_toArray, List.set_cons_zero, List.set_cons_succ, i64_w, i32_w]
        rfl
      refine pure_ (i := 10) (N := some 102) (v := ?_) (a' := ?_) #[true, true, true, true, true, true, true, true, true, true, true, false] rfl rfl (by kernel_rfl) (fun _ _ _ h => h) (Or.inl ⟨by rfl, ?_⟩) ?_ ?_
      rotate_left
      · intro w'
        go_simp
        with_reducible rfl
      rotate_left
      · simp only [Act.put, List.setIfInBounds_toArray, List.set_cons_zero, List.set_cons_succ, i64_w, i32_w]
        rfl
      refine pure_ (i := 11) (N := some 103) (v := ?_) (a' := ?_) #[true, true, true, true, true, true, true, true, true, true, true, true] rfl rfl (by kernel_rfl) (fun _ _ _ h => h) (Or.inl ⟨by rfl, ?_⟩) ?_ ?_
      rotate_left
      · intro w'
        go_simp
        with_reducible rfl
      rotate_left
      · simp only [Act.put, List.setIfInBounds_toArray, List.set_cons_zero, List.set_cons_succ, i64_w, i32_w]
        rfl
      refine done_ (by kernel_rfl) ?_
      replace hS := Aside0.mk hHeld
      clear hHeld
      have hI1 : IntKind.i64.wrap ((h : Int) + 1) = ((h + 1 : Nat) : Int) := by rw [IntWalk.i64_in _ (by omega)]; omega
      go_wp2
      · rename ((!decide (kv < 0)) = true) => hz
        have hneg : ¬ kv < 0 := by intro h3; rw [decide_eq_true h3] at hz; exact absurd hz (by decide)
        clear hz
        go_roundg k1
        case measure => omega
        case rel => exact ⟨h + 1, j, rfl, rfl, by omega, by omega, by omega, by omega, ⟨fun _ => by rw [show h + 1 - 1 = h from rfl, hkv.out]; omega, hB.out.2⟩, hS⟩
      · rename ((!decide (kv < 0)) = false) => hz
        have hneg : kv < 0 := by
          by_cases h3 : kv < 0
          · exact h3
          · rw [decide_eq_false h3] at hz; exact absurd hz (by decide)
        clear hz
        go_roundg k1
        case measure => omega
        case rel => exact ⟨i, h, rfl, rfl, by omega, by omega, by omega, by omega, ⟨fun h3 => by have := hB.out.1 h3; omega, fun _ => by rw [hkv.out]; exact hneg⟩, hS⟩
    · obtain rfl : i = j := by omega
      clear hk
      go_wp2
      go_loopg [17] (m + 1) (fun kq v17 wr => ∃ k : Nat, v17 = .int .i64 (k : Int) ∧ i ≤ k ∧ k ≤ m ∧ k - i < kq ∧ Aside0 (Sv w wr g n (fun x => F (rotN s k m (m + 1) x))))
      case atStart => exact ⟨m, rfl, by omega, Nat.le_refl _, by omega, by rw [rotN_id _ _ _ _ (Or.inl rfl) (Nat.le_refl _) (Nat.le_succ _)]; exact hS⟩
      case round =>
        clear hS
        obtain ⟨k, rfl, hik, hkm, hk, hS⟩ := hrel
        obtain ⟨k1, rfl⟩ : ∃ m, gk = m + 1 := ⟨gk - 1, by omega⟩
        by_cases hke : i < k
        · have hkeI : (i : Int) < (k : Int) := by omega
          obtain ⟨q, hq⟩ : ∃ q : Nat, k - 1 = q := ⟨_, rfl⟩
          have hqI : IntKind.i64.wrap ((k : Int) - 1) = (q : Int) := by rw [IntWalk.i64_in _ (by omega)]; omega
          have hpq : q < k := by omega
          have hpn : k < n := by omega
          have hqn : q < n := by omega
          have p0 : (0 : Int) ≤ (k : Int) := by omega
          have q0 : (0 : Int) ≤ (q : Int) := by omega
          have p1 : (k : Int) < (n : Int) := by omega
          have q1 : (q : Int) < (n : Int) := by omega
          have hset := Aside0.mk (fun W (h : At W g n (fun x => F (rotN s k m (m + 1) x))) => (h.put k (F (rotN s k m (m + 1) q))).put q (F (rotN s k m (m + 1) k)))
          obtain ⟨⟨a0, a0f⟩, ⟨a1, a1f⟩, ⟨a2, a2f⟩, ⟨a3, a3f⟩⟩ := hS.out.a.get k hpn
          obtain ⟨⟨b0, b0f⟩, ⟨b1, b1f⟩, ⟨b2, b2f⟩, ⟨b3, b3f⟩⟩ := hS.out.a.get q hqn
          have hsw : upd (upd (fun x => F (rotN s k m (m + 1) x)) k (F (rotN s k m (m + 1) q))) q (F (rotN s k m (m + 1) k)) = fun x => F (rotN s q m (m + 1) x) := by (have e : k = q + 1 := by omega); subst e; exact sw_F F _ _ _ _ (rot_dn s m q (by omega))
          rw [hsw] at hset
          clear hsw
          replace hq := Aside0.mk hq
          try dsimp only at a0 a1 a2 a3 a0f a1f a2f a3f b0 b1 b2 b3 b0f b1f b2f b3f
          generalize F (rotN s k m (m + 1) q) = x at a0 a1 a2 a3 a0f a1f a2f a3f b0 b1 b2 b3 b0f b1f b2f b3f hset
          generalize F (rotN s k m (m + 1) k) = y at a0 a1 a2 a3 a0f a1f a2f a3f b0 b1 b2 b3 b0f b1f b2f b3f hset
          go_wp2
          go_region
          go_wp2
          go_roundg k1
          case measure => have := hq.out; omega
          case rel =>
            have := hq.out
            exact ⟨q, rfl, by omega, by omega, by omega, ⟨⟨by subst this; exact (hset.out _ hS.out.a).drew, (only_put (only_put hS.out.o g rfl k x) g rfl q y).drew⟩⟩⟩
        · clear hk
          obtain rfl : i = k := by omega
          go_wp2
          go_end0
          subst hm
          have h2 := one_right hP.out (by omega) hj (fun h => by have := hB.out.1 h; omega) hB.out.2
          exact ⟨rfl, _, hS.out.a, h2.1, h2.2, hS.out.o⟩
end Go.Proofs.Ytllepjhimkogjaa.Rw
namespace Go.Proofs.Ytllepjhimkogjaa.Rw
open Go.RowKit Go.Proofs.Ytllepjhimkogjaa.Ob Go.Proofs.YtllepjhimkogjaaW.PrintWords Go.Proofs.YtllepjhimkogjaaW.PrintLast Go.Proofs.Ytllepjhimkogjaa.Two
set_option linter.unusedSimpArgs false
set_option linter.unusedVariables false
theorem rot_w (W : World) (g n c : Nat) (F : Nat → E) (s : Nat → Nat) (a m b : Nat) (hn : n ≤ 1000) (ha : a < m) (hm : m < b) (hb : b ≤ n) (hA : At W g n (fun x => F (s x))) :
    Calls Try.prog 131 #[.slice (some ⟨g, 0, none⟩) n c, .int .i64 (a : Int), .int .i64 (m : Int), .int .i64 (b : Int), .func (.func 61) #[] #[]] W fun e w' => e = .returned (.tuple #[]) ∧ At w' g n (fun x => F (rotN s a m b x)) ∧ Only (fun q => q = g) W w' := by
  rw [← rot_F]
  exact rot_walk W g n c _ a m b hn ha hm hb hA
theorem Pre.of_eq {F : Nat → E} {s t : Nat → Nat} {a m b : Nat} (h : Pre F s a m b) (e : ∀ x, a ≤ x → x < b → t x = s x) : Pre F t a m b := by
  have h1 := h.am
  have h2 := h.mb
  refine ⟨h1, h2, fun i j hi hij hj => ?_, fun i j hi hij hj => ?_, fun i j hi him hj hjb => ?_⟩
  · rw [e i hi (by omega), e j (by omega) (by omega)]; exact h.l i j hi hij hj
  · rw [e i (by omega) (by omega), e j (by omega) hj]; exact h.r i j hi hij hj
  · rw [e i hi (by omega), e j (by omega) hjb]; exact h.x i j hi him hj hjb
theorem cut_halves {F : Nat → E} {s : Nat → Nat} {a m b st en mid : Nat} (c : Cut F s a m b st en) (h : Pre F s a m b) (e : st + (en - m) = mid) : Pre F (rotN s st m en) a st mid ∧ Pre F (rotN s st m en) mid en b := by subst e; exact c.halves h
theorem cut_whole {F : Nat → E} {s : Nat → Nat} {a m b st en mid : Nat} (c : Cut F s a m b st en) (h : Pre F s a m b) (e : st + (en - m) = mid) {t u : Nat → Nat} (h1 : Same (rotN s st m en) t a mid ∧ Srt F t a mid) (h2 : Same t u mid b ∧ Srt F u mid b) : Same s u a b ∧ Srt F u a b := by subst e; exact c.whole h h1.1 h1.2 h2.1 h2.2
set_option maxHeartbeats 20000000 in
set_option maxRecDepth 1000000 in
theorem sym_gen (w : World) (g n c : Nat) (F : Nat → E) (s : Nat → Nat) (a m b : Nat) (hn : n ≤ 1000) (hb : b ≤ n) (ham : a < m) (hmb : m < b) (hne : a + 1 ≠ m) (hne2 : m + 1 ≠ b) (hP : Pre F s a m b) (hA : At w g n (fun x => F (s x)))
    (hrec : ∀ (w' : World) (s' : Nat → Nat) (a' m' b' : Nat), b' ≤ n → a' < m' → m' < b' → b' - a' < b - a → Pre F s' a' m' b' → At w' g n (fun x => F (s' x)) → Calls Try.prog 116 #[.slice (some ⟨g, 0, none⟩) n c, .int .i64 (a' : Int), .int .i64 (m' : Int), .int .i64 (b' : Int), .func (.func 61) #[] #[]] w' (Merged F s' a' b' g n w')) :
    Calls Try.prog 116 #[.slice (some ⟨g, 0, none⟩) n c, .int .i64 (a : Int), .int .i64 (m : Int), .int .i64 (b : Int), .func (.func 61) #[] #[]] w (Merged F s a b g n w) := by
  have hS := Aside0.mk (Sv.mk hA (Only.refl (fun q => q = g) w))
  clear hA
  replace hrec := Aside0.mk hrec
  have hI : ((m : Int) - (a : Int) == 1) = false := by rw [beq_eq_false_iff_ne]; omega
  have hJ : ((b : Int) - (m : Int) == 1) = false := by rw [beq_eq_false_iff_ne]; omega
  obtain ⟨mid, hmid⟩ : ∃ mid : Nat, (a + b) / 2 = mid := ⟨_, rfl⟩
  have hmidI : ((a : Int) + (b : Int)) / 2 = (mid : Int) := by omega
  obtain ⟨nn, hnn⟩ : ∃ nn : Nat, mid + m = nn := ⟨_, rfl⟩
  have hnnI : IntKind.i64.wrap ((mid : Int) + (m : Int)) = (nn : Int) := by rw [IntWalk.i64_in _ (by omega)]; omega
  obtain ⟨p, hp⟩ : ∃ p : Nat, nn - 1 = p := ⟨_, rfl⟩
  have hpI : IntKind.i64.wrap ((nn : Int) - 1) = (p : Int) := by rw [IntWalk.i64_in _ (by omega)]; omega
  have hm1 : a < mid := by omega
  have hm2 : mid < b := by omega
  have hm3 : a + b ≤ 2 * mid + 1 := by omega
  have hm4 : 2 * mid ≤ a + b := by omega
  clear hmid
  replace hP := Aside0.mk hP
  go_enter Try.func116, Try.ntmps116
  by_cases hmm : mid < m
  · have hgt : (mid : Int) < (m : Int) := by omega
    obtain ⟨s0, hs0⟩ : ∃ s0 : Nat, nn - b = s0 := ⟨_, rfl⟩
    have hs0I : IntKind.i64.wrap ((nn : Int) - (b : Int)) = (s0 : Int) := by rw [IntWalk.i64_in _ (by omega)]; omega
    go_wp2
    clear hI hJ hne hne2 hmidI
    go_loopg [20, 21] (m + 1) (fun kq v20 v21 wr => ∃ st r : Nat, v20 = .int .i64 (st : Int) ∧ v21 = .int .i64 (r : Int) ∧ a ≤ st ∧ st ≤ r ∧ r ≤ m ∧ r ≤ mid ∧ nn ≤ st + b ∧ r - st < kq ∧ Aside0 ((a < st → nn < st + b → ¬ kc (F (s (nn - st))) (F (s (st - 1))) < 0) ∧ (r < m → r < mid → kc (F (s (nn - r - 1))) (F (s r)) < 0)) ∧ Aside0 (Sv w wr g n (fun x => F (s x))))
    case atStart => exact ⟨s0, mid, rfl, rfl, by omega, by omega, by omega, by omega, by omega, by omega, ⟨fun h1 h2 => absurd h2 (by omega), fun h1 h2 => absurd h1 (by omega)⟩, hS⟩
    case round =>
      clear hS
      obtain ⟨st, r, rfl, rfl, has, hsr, hrm, hrd, hns, hk, hB, hS⟩ := hrel
      obtain ⟨k1, rfl⟩ : ∃ m, gk = m + 1 := ⟨gk - 1, by omega⟩
      by_cases hlt : st < r
      · have hltI : (st : Int) < (r : Int) := by omega
        obtain ⟨h, hh⟩ : ∃ h : Nat, (st + r) / 2 = h := ⟨_, rfl⟩
        have hhI : ((st : Int) + (r : Int)) / 2 = (h : Int) := by omega
        have hhi : st ≤ h := by omega
        have hhj : h < r := by omega
        clear hh
        obtain ⟨q, hq⟩ : ∃ q : Nat, p - h = q := ⟨_, rfl⟩
        have hqI : IntKind.i64.wrap ((p : Int) - (h : Int)) = (q : Int) := by rw [IntWalk.i64_in _ (by omega)]; omega
        have hqn : q < n := by omega
        have hhn : h < n := by omega
        have hqe : Aside0 (nn - (h + 1) = q ∧ nn - h - 1 = q) := ⟨by omega, by omega⟩
        replace hq := Aside0.mk hq
        obtain ⟨kv, hkv⟩ : ∃ kv, kc (F (s q)) (F (s h)) = kv := ⟨_, rfl⟩
        replace hkv := Aside0.mk hkv
        go_wp2
        have hS := hS.out.drew
        refine start_ (n := 14) (S := fun W => Sv w W g n (fun x => F (s x))) (ds := []) #[false, false, false, false, false, false, false, false, false, false, false, false, false, false] (by kernel_rfl) rfl rfl hS (fun hHeld => ?_)
        clear hS
        refine pure_ (i := 0) (N := some 158) (v := ?_) (a' := ?_) #[true, false, false, false, false, false, false, false, false, false, false, false, false, false] rfl rfl (by kernel_rfl) (fun _ _ _ h => h) (Or.inl ⟨by rfl, ?_⟩) ?_ ?_
        rotate_left
        · intro w'
          go_simp
          with_reducible rfl
        rotate_left
        · simp only [Act.put, List.setIfInBounds_toArray, List.set_cons_zero, List.set_cons_succ, i64_w, i32_w]
          rfl
        refine pure_ (i := 1) (N := some 159) (v := ?_) (a' := ?_) #[true, true, false, false, false, false, false, false, false, false, false, false, false, false] rfl rfl (by kernel_rfl) (fun _ _ _ h => h) (Or.inl ⟨by rfl, ?_⟩) ?_ ?_
        rotate_left
        · intro w'
          go_simp
          with_reducible rfl
        rotate_left
        · simp only [Act.put, List.setIfInBounds_toArray, List.set_cons_zero, List.set_cons_succ, i64_w, i32_w]
          rfl
        refine pure_ (i := 2) (N := some 160) (v := ?_) (a' := ?_) #[true, true, true, false, false, false, false, false, false, false, false, false, false, false] rfl rfl (by kernel_rfl) (fun _ _ _ h => h) (Or.inl ⟨by rfl, ?_⟩) ?_ ?_
        rotate_left
        · intro w'
          go_simp
          with_reducible rfl
        rotate_left
        · simp only [Act.put, List.setIfInBounds_toArray, List.set_cons_zero, List.set_cons_succ, i64_w, i32_w]
          rfl
        refine pure_ (i := 3) (N := some 161) (v := ?_) (a' := ?_) #[true, true, true, true, false, false, false, false, false, false, false, false, false, false] rfl rfl (by kernel_rfl) (fun _ _ _ h => h) (Or.inl ⟨by rfl, ?_⟩) ?_ ?_
        rotate_left
        · intro w'
          go_simp
          with_reducible rfl
        rotate_left
        · simp only [Act.put, List.setIfInBounds_toArray, List.set_cons_zero, List.set_cons_succ, i64_w, i32_w]
          rfl
        refine pure_ (i := 4) (N := some 162) (v := ?_) (a' := ?_) #[true, true, true, true, true, false, false, false, false, false, false, false, false, false] rfl rfl (by kernel_rfl) (fun _ _ _ h => h) (Or.inl ⟨by rfl, ?_⟩) ?_ ?_
        rotate_left
        · intro w'
          go_simp
          with_reducible rfl
        rotate_left
        · simp only [Act.put, List.setIfInBounds_toArray, List.set_cons_zero, List.set_cons_succ, i64_w, i32_w]
          rfl
        refine pure_ (i := 5) (N := some 163) (v := ?_) (a' := ?_) #[true, true, true, true, true, true, false, false, false, false, false, false, false, false] rfl rfl (by kernel_rfl) (fun _ _ _ h => h) (Or.inl ⟨by rfl, ?_⟩) ?_ ?_
        rotate_left
        · intro w'
          refine exec_index (.tmp 159) (.tmp 162) ?_ g n c q ?_ ?_ ?_
          · rfl
          · rfl
          · rfl
          · omega
        rotate_left
        · simp only [Act.put, List.setIfInBounds_toArray, List.set_cons_zero, List.set_cons_succ, i64_w, i32_w]
          rfl
        refine pure_ (i := 7) (N := some 165) (v := ?_) (a' := ?_) #[true, true, true, true, true, true, false, true, false, false, false, false, false, false] rfl rfl (by kernel_rfl) (fun _ _ _ h => h) (Or.inl ⟨by rfl, ?_⟩) ?_ ?_
        rotate_left
        · intro w'
          go_simp
          with_reducible rfl
        rotate_left
        · simp only [Act.put, List.setIfInBounds_toArray, List.set_cons_zero, List.set_cons_succ, i64_w, i32_w]
          rfl
        refine pure_ (i := 8) (N := some 166) (v := ?_) (a' := ?_) #[true, true, true, true, true, true, false, true, true, false, false, false, false, false] rfl rfl (by kernel_rfl) (fun _ _ _ h => h) (Or.inl ⟨by rfl, ?_⟩) ?_ ?_
        rotate_left
        · intro w'
          go_simp
          with_reducible rfl
        rotate_left
        · simp only [Act.put, List.setIfInBounds_toArray, List.set_cons_zero, List.set_cons_succ, i64_w, i32_w]
          rfl
        refine pure_ (i := 9) (N := some 167) (v := ?_) (a' := ?_) #[true, true, true, true, true, true, false, true, true, true, false, false, false, false] rfl rfl (by kernel_rfl) (fun _ _ _ h => h) (Or.inl ⟨by rfl, ?_⟩) ?_ ?_
        rotate_left
        · intro w'
          refine exec_index (.tmp 165) (.tmp 166) ?_ g n c h ?_ ?_ ?_
          · rfl
          · rfl
          · rfl
          · omega
        rotate_left
        · simp only [Act.put, List.setIfInBounds_toArray, List.set_cons_zero, List.set_cons_succ, i64_w, i32_w]
          rfl
        refine take_ (i := 6) (N := some 164) (v := .agg #[.string ((fun x => F (s x)) q).f0, .int .i64 ((fun x => F (s x)) q).f1.f0, .int .i64 ((fun x => F (s x)) q).f1.f1, .string ((fun x => F (s x)) q).f1.f2]) (a' := ?_) #[true, true, true, true, true, true, true, true, true, true, false, false, false, false] rfl rfl (by kernel_rfl) (fun _ _ _ h => h) (Or.inl ⟨by rfl, ?_⟩) hHeld ?_ ?_
        · rintro w' hv'
          refine exec_elem (.tmp 163) ?_ g n q _ ?_ hv'.a ?_
          · rfl
          · rfl
          · omega
        rotate_left
        · simp only [Act.put, List.setIfInBounds_toArray, List.set_cons_zero, List.set_cons_succ, i64_w, i32_w]
          rfl
        refine take_ (i := 10) (N := some 168) (v := .agg #[.string ((fun x => F (s x)) h).f0, .int .i64 ((fun x => F (s x)) h).f1.f0, .int .i64 ((fun x => F (s x)) h).f1.f1, .string ((fun x => F (s x)) h).f1.f2]) (a' := ?_) #[true, true, true, true, true, true, true, true, true, true, true, false, false, false] rfl rfl (by kernel_rfl) (fun _ _ _ h => h) (Or.inl ⟨by rfl, ?_⟩) hHeld ?_ ?_
        · rintro w' hv'
          refine exec_elem (.tmp 167) ?_ g n h _ ?_ hv'.a ?_
          · rfl
          · rfl
          · omega
        rotate_left
        · simp only [Act.put, List.setIfInBounds_toArray, List.set_cons_zero, List.set_cons_succ, i64_w, i32_w]
          rfl
        refine one_ (i := 11) (N := some 169) #[true, true, true, true, true, true, true, true, true, true, true, true, false, false] rfl rfl (by kernel_rfl) (by decide) (fun K hK => ?_)
        refine goesV_ Try.func61 (by kernel_rfl) rfl #[.agg #[.string ((fun x => F (s x)) q).f0, .int .i64 ((fun x => F (s x)) q).f1.f0, .int .i64 ((fun x => F (s x)) q).f1.f1, .string ((fun x => F (s x)) q).f1.f2], .agg #[.string ((fun x => F (s x)) h).f0, .int .i64 ((fun x => F (s x)) h).f1.f0, .int .i64 ((fun x => F (s x)) h).f1.f1, .string ((fun x => F (s x)) h).f1.f2]] (by rfl) rfl rfl rfl (by (try simp only [List.map_toArray, List.map_cons, List.map_nil]); first | done | rfl) ?_
        refine (kc_w _ _ _ _ hkv.out).mono ?_
        rintro e w' ⟨rfl, hb⟩
        have hH2 := Aside0.mk (hHeld.keep hb)
        clear hb
        refine ⟨_, rfl, ?_⟩
        refine hK.out _ _ (hH2.out) (fun hHeld => ?_)
        clear hK K
        refine norm_ (a' := ?_) ?_ ?_
        rotate_left
        · show Act.put _ (some 169) _ = _
          simp only [Act.put, List.setIfInBounds_toArray, List.set_cons_zero, List.set_cons_succ, i64_w, i32_w]
          rfl
        refine pure_ (i := 12) (N := some 170) (v := ?_) (a' := ?_) #[true, true, true, true, true, true, true, true, true, true, true, true, true, false] rfl rfl (by kernel_rfl) (fun _ _ _ h => h) (Or.inl ⟨by rfl, ?_⟩) ?_ ?_
        rotate_left
        · intro w'
          go_simp
          with_reducible rfl
        rotate_left
        · simp only [Act.put, List.setIfInBounds_toArray, List.set_cons_zero, List.set_cons_succ, i64_w, i32_w]
          rfl
        refine pure_ (i := 13) (N := some 171) (v := ?_) (a' := ?_) #[true, true, true, true, true, true, true, true, true, true, true, true, true, true] rfl rfl (by kernel_rfl) (fun _ _ _ h => h) (Or.inl ⟨by rfl, ?_⟩) ?_ ?_
        rotate_left
        · intro w'
          go_simp
          with_reducible rfl
        rotate_left
        · simp only [Act.put, List.setIfInBounds_toArray, List.set_cons_zero, List.set_cons_succ, i64_w, i32_w]
          rfl
        refine done_ (by kernel_rfl) ?_
        replace hS := Aside0.mk hHeld
        clear hHeld
        have hI1 : IntKind.i64.wrap ((h : Int) + 1) = ((h + 1 : Nat) : Int) := by rw [IntWalk.i64_in _ (by omega)]; omega
        go_wp2
        · rename ((!decide (kv < 0)) = true) => hz
          have hneg : ¬ kv < 0 := by intro h3; rw [decide_eq_true h3] at hz; exact absurd hz (by decide)
          clear hz
          go_roundg k1
          case measure => omega
          case rel => exact ⟨h + 1, r, rfl, rfl, by omega, by omega, by omega, by omega, by omega, by omega, ⟨fun _ _ => by rw [hqe.out.1, show h + 1 - 1 = h from rfl, hkv.out]; omega, hB.out.2⟩, hS⟩
        · rename ((!decide (kv < 0)) = false) => hz
          have hneg : kv < 0 := by
            by_cases h3 : kv < 0
            · exact h3
            · rw [decide_eq_false h3] at hz; exact absurd hz (by decide)
          clear hz
          go_roundg k1
          case measure => omega
          case rel => exact ⟨st, h, rfl, rfl, by omega, by omega, by omega, by omega, by omega, by omega, ⟨fun h3 h4 => by have := hB.out.1 h3 h4; omega, fun _ _ => by rw [hqe.out.2, hkv.out]; exact hneg⟩, hS⟩
      · obtain rfl : st = r := by omega
        clear hk
        obtain ⟨en, hen⟩ : ∃ en : Nat, nn - st = en := ⟨_, rfl⟩
        have henI : IntKind.i64.wrap ((nn : Int) - (st : Int)) = (en : Int) := by rw [IntWalk.i64_in _ (by omega)]; omega
        have hmide : st + (en - m) = mid := by omega
        have hC : Cut F s a m b st en := ⟨has, hrm, by omega, by omega, fun h1 h2 => by have := hB.out.1 h1 (by omega); rw [← hen]; omega, fun h1 h2 => by have := hB.out.2 h1 (by omega); rw [← hen]; exact this⟩
        have hH := Aside0.mk (cut_halves hC hP.out hmide)
        have hW := Aside0.mk (fun (t u : Nat → Nat) (h1 : Same (rotN s st m en) t a mid ∧ Srt F t a mid) (h2 : Same t u mid b ∧ Srt F u mid b) => cut_whole hC hP.out hmide h1 h2)
        clear hC
        have g1 : mid ≤ en := by omega
        have g2 : en ≤ b := by omega
        have g3 : m ≤ en := by omega
        have g4 : en - m = mid - st := by omega
        clear hnn hp hpI hnnI hen hm3 hm4 hB
        by_cases hA1 : st < m <;> by_cases hB1 : st < mid <;> by_cases hC1 : a < st <;> by_cases hD1 : en < b
        · have f0 : ((st : Int) < (m : Int)) := by omega
          have f1 : ((mid : Int) < (en : Int)) := by omega
          have f2 : ((st : Int) < (mid : Int)) := by omega
          have f3 : ((m : Int) < (en : Int)) := by omega
          have f4 : ((a : Int) < (st : Int)) := by omega
          have f5 : ((en : Int) < (b : Int)) := by omega
          have hf1 : Aside0 True := ⟨trivial⟩
          have hf2 : Aside0 True := ⟨trivial⟩
          go_wp2_with (first | (clear hf1; go_at_call 131; refine (rot_w _ g n c F s st m en hn (by omega) (by omega) (by omega) hS.out.a).mono ?_; rintro e w1 ⟨rfl, hA1, hO1⟩; replace hS := Aside0.mk (Sv.mk hA1 (hS.out.o.trans hO1)); clear hA1 hO1) | (clear hf2; go_at_call 116; refine (hrec.out _ (rotN s st m en) a st mid (by omega) (by omega) (by omega) (by omega) hH.out.1 hS.out.a).mono ?_; rintro e w1 ⟨rfl, t, hA1, ht1, ht2, hO1⟩; replace hS := Aside0.mk (Sv.mk hA1 (hS.out.o.trans hO1)); have ht := Aside0.mk (And.intro ht1 ht2); clear hA1 ht1 ht2 hO1) | (go_at_call 116; refine (hrec.out _ _ mid en b (by omega) (by omega) (by omega) (by omega) (Pre.of_eq hH.out.2 (fun x hx _ => ht.out.1.2.2 x (by omega))) hS.out.a).mono ?_; rintro e w1 ⟨rfl, u, hA1, hu1, hu2, hO1⟩; replace hS := Aside0.mk (Sv.mk hA1 (hS.out.o.trans hO1)); have hu := Aside0.mk (And.intro hu1 hu2); clear hA1 hu1 hu2 hO1))
          go_end0
          have hz := hW.out _ _ ht.out hu.out
          exact ⟨rfl, _, hS.out.a, hz.1, hz.2, hS.out.o⟩
        · have f0 : ((st : Int) < (m : Int)) := by omega
          have f1 : ((mid : Int) < (en : Int)) := by omega
          have f2 : ((st : Int) < (mid : Int)) := by omega
          have f3 : ((m : Int) < (en : Int)) := by omega
          have f4 : ((a : Int) < (st : Int)) := by omega
          have f5 : ¬ ((en : Int) < (b : Int)) := by omega
          have hf1 : Aside0 True := ⟨trivial⟩
          have hf2 : Aside0 True := ⟨trivial⟩
          go_wp2_with (first | (clear hf1; go_at_call 131; refine (rot_w _ g n c F s st m en hn (by omega) (by omega) (by omega) hS.out.a).mono ?_; rintro e w1 ⟨rfl, hA1, hO1⟩; replace hS := Aside0.mk (Sv.mk hA1 (hS.out.o.trans hO1)); clear hA1 hO1) | (clear hf2; go_at_call 116; refine (hrec.out _ (rotN s st m en) a st mid (by omega) (by omega) (by omega) (by omega) hH.out.1 hS.out.a).mono ?_; rintro e w1 ⟨rfl, t, hA1, ht1, ht2, hO1⟩; replace hS := Aside0.mk (Sv.mk hA1 (hS.out.o.trans hO1)); have ht := Aside0.mk (And.intro ht1 ht2); clear hA1 ht1 ht2 hO1))
          go_end0
          have hz := hW.out _ _ ht.out (And.intro (Same.refl _ mid b) ((Pre.of_eq hH.out.2 (fun x hx _ => ht.out.1.2.2 x (by omega))).merged (by omega)))
          exact ⟨rfl, _, hS.out.a, hz.1, hz.2, hS.out.o⟩
        · have f0 : ((st : Int) < (m : Int)) := by omega
          have f1 : ((mid : Int) < (en : Int)) := by omega
          have f2 : ((st : Int) < (mid : Int)) := by omega
          have f3 : ((m : Int) < (en : Int)) := by omega
          have f4 : ¬ ((a : Int) < (st : Int)) := by omega
          have f5 : ((en : Int) < (b : Int)) := by omega
          have hf1 : Aside0 True := ⟨trivial⟩
          have ht : Aside0 (Same (rotN s st m en) (rotN s st m en) a mid ∧ Srt F (rotN s st m en) a mid) := ⟨⟨Same.refl _ _ _, hH.out.1.merged (by omega)⟩⟩
          go_wp2_with (first | (clear hf1; go_at_call 131; refine (rot_w _ g n c F s st m en hn (by omega) (by omega) (by omega) hS.out.a).mono ?_; rintro e w1 ⟨rfl, hA1, hO1⟩; replace hS := Aside0.mk (Sv.mk hA1 (hS.out.o.trans hO1)); clear hA1 hO1) | (go_at_call 116; refine (hrec.out _ _ mid en b (by omega) (by omega) (by omega) (by omega) (Pre.of_eq hH.out.2 (fun x hx _ => ht.out.1.2.2 x (by omega))) hS.out.a).mono ?_; rintro e w1 ⟨rfl, u, hA1, hu1, hu2, hO1⟩; replace hS := Aside0.mk (Sv.mk hA1 (hS.out.o.trans hO1)); have hu := Aside0.mk (And.intro hu1 hu2); clear hA1 hu1 hu2 hO1))
          go_end0
          have hz := hW.out _ _ ht.out hu.out
          exact ⟨rfl, _, hS.out.a, hz.1, hz.2, hS.out.o⟩
        · have f0 : ((st : Int) < (m : Int)) := by omega
          have f1 : ((mid : Int) < (en : Int)) := by omega
          have f2 : ((st : Int) < (mid : Int)) := by omega
          have f3 : ((m : Int) < (en : Int)) := by omega
          have f4 : ¬ ((a : Int) < (st : Int)) := by omega
          have f5 : ¬ ((en : Int) < (b : Int)) := by omega
          have hf1 : Aside0 True := ⟨trivial⟩
          have ht : Aside0 (Same (rotN s st m en) (rotN s st m en) a mid ∧ Srt F (rotN s st m en) a mid) := ⟨⟨Same.refl _ _ _, hH.out.1.merged (by omega)⟩⟩
          go_wp2_with (first | (clear hf1; go_at_call 131; refine (rot_w _ g n c F s st m en hn (by omega) (by omega) (by omega) hS.out.a).mono ?_; rintro e w1 ⟨rfl, hA1, hO1⟩; replace hS := Aside0.mk (Sv.mk hA1 (hS.out.o.trans hO1)); clear hA1 hO1))
          go_end0
          have hz := hW.out _ _ ht.out (And.intro (Same.refl _ mid b) ((Pre.of_eq hH.out.2 (fun x hx _ => ht.out.1.2.2 x (by omega))).merged (by omega)))
          exact ⟨rfl, _, hS.out.a, hz.1, hz.2, hS.out.o⟩
        · have f0 : ((st : Int) < (m : Int)) := by omega
          have f1 : ((mid : Int) < (en : Int)) := by omega
          have f2 : ¬ ((st : Int) < (mid : Int)) := by omega
          have f3 : ¬ ((m : Int) < (en : Int)) := by omega
          have f4 : ((a : Int) < (st : Int)) := by omega
          have f5 : ((en : Int) < (b : Int)) := by omega
          replace hS : Aside0 (Sv w wr g n (fun x => F (rotN s st m en x))) := ⟨by rw [rotN_id s st m en (by omega) (by omega) (by omega)]; exact hS.out⟩
          have ht : Aside0 (Same (rotN s st m en) (rotN s st m en) a mid ∧ Srt F (rotN s st m en) a mid) := ⟨⟨Same.refl _ _ _, hH.out.1.merged (by omega)⟩⟩
          go_wp2_with (first | (go_at_call 116; refine (hrec.out _ _ mid en b (by omega) (by omega) (by omega) (by omega) (Pre.of_eq hH.out.2 (fun x hx _ => ht.out.1.2.2 x (by omega))) hS.out.a).mono ?_; rintro e w1 ⟨rfl, u, hA1, hu1, hu2, hO1⟩; replace hS := Aside0.mk (Sv.mk hA1 (hS.out.o.trans hO1)); have hu := Aside0.mk (And.intro hu1 hu2); clear hA1 hu1 hu2 hO1))
          go_end0
          have hz := hW.out _ _ ht.out hu.out
          exact ⟨rfl, _, hS.out.a, hz.1, hz.2, hS.out.o⟩
        · have f0 : ((st : Int) < (m : Int)) := by omega
          have f1 : ((mid : Int) < (en : Int)) := by omega
          have f2 : ¬ ((st : Int) < (mid : Int)) := by omega
          have f3 : ¬ ((m : Int) < (en : Int)) := by omega
          have f4 : ((a : Int) < (st : Int)) := by omega
          have f5 : ¬ ((en : Int) < (b : Int)) := by omega
          replace hS : Aside0 (Sv w wr g n (fun x => F (rotN s st m en x))) := ⟨by rw [rotN_id s st m en (by omega) (by omega) (by omega)]; exact hS.out⟩
          have ht : Aside0 (Same (rotN s st m en) (rotN s st m en) a mid ∧ Srt F (rotN s st m en) a mid) := ⟨⟨Same.refl _ _ _, hH.out.1.merged (by omega)⟩⟩
          go_wp2
          go_end0
          have hz := hW.out _ _ ht.out (And.intro (Same.refl _ mid b) ((Pre.of_eq hH.out.2 (fun x hx _ => ht.out.1.2.2 x (by omega))).merged (by omega)))
          exact ⟨rfl, _, hS.out.a, hz.1, hz.2, hS.out.o⟩
        · exact absurd hm1 (by omega)
        · exact absurd hm1 (by omega)
        · exact absurd hmm (by omega)
        · exact absurd hmm (by omega)
        · exact absurd hmm (by omega)
        · exact absurd hmm (by omega)
        · exact absurd hmm (by omega)
        · exact absurd hmm (by omega)
        · exact absurd hmm (by omega)
        · exact absurd hmm (by omega)
  · have hgt : ¬ ((mid : Int) < (m : Int)) := by omega
    go_wp2
    clear hI hJ hne hne2 hmidI
    go_loopg [20, 21] (m + 1) (fun kq v20 v21 wr => ∃ st r : Nat, v20 = .int .i64 (st : Int) ∧ v21 = .int .i64 (r : Int) ∧ a ≤ st ∧ st ≤ r ∧ r ≤ m ∧ r ≤ mid ∧ nn ≤ st + b ∧ r - st < kq ∧ Aside0 ((a < st → nn < st + b → ¬ kc (F (s (nn - st))) (F (s (st - 1))) < 0) ∧ (r < m → r < mid → kc (F (s (nn - r - 1))) (F (s r)) < 0)) ∧ Aside0 (Sv w wr g n (fun x => F (s x))))
    case atStart => exact ⟨a, m, rfl, rfl, by omega, by omega, by omega, by omega, by omega, by omega, ⟨fun h1 h2 => absurd h2 (by omega), fun h1 h2 => absurd h1 (by omega)⟩, hS⟩
    case round =>
      clear hS
      obtain ⟨st, r, rfl, rfl, has, hsr, hrm, hrd, hns, hk, hB, hS⟩ := hrel
      obtain ⟨k1, rfl⟩ : ∃ m, gk = m + 1 := ⟨gk - 1, by omega⟩
      by_cases hlt : st < r
      · have hltI : (st : Int) < (r : Int) := by omega
        obtain ⟨h, hh⟩ : ∃ h : Nat, (st + r) / 2 = h := ⟨_, rfl⟩
        have hhI : ((st : Int) + (r : Int)) / 2 = (h : Int) := by omega
        have hhi : st ≤ h := by omega
        have hhj : h < r := by omega
        clear hh
        obtain ⟨q, hq⟩ : ∃ q : Nat, p - h = q := ⟨_, rfl⟩
        have hqI : IntKind.i64.wrap ((p : Int) - (h : Int)) = (q : Int) := by rw [IntWalk.i64_in _ (by omega)]; omega
        have hqn : q < n := by omega
        have hhn : h < n := by omega
        have hqe : Aside0 (nn - (h + 1) = q ∧ nn - h - 1 = q) := ⟨by omega, by omega⟩
        replace hq := Aside0.mk hq
        obtain ⟨kv, hkv⟩ : ∃ kv, kc (F (s q)) (F (s h)) = kv := ⟨_, rfl⟩
        replace hkv := Aside0.mk hkv
        go_wp2
        have hS := hS.out.drew
        refine start_ (n := 14) (S := fun W => Sv w W g n (fun x => F (s x))) (ds := []) #[false, false, false, false, false, false, false, false, false, false, false, false, false, false] (by kernel_rfl) rfl rfl hS (fun hHeld => ?_)
        clear hS
        refine pure_ (i := 0) (N := some 158) (v := ?_) (a' := ?_) #[true, false, false, false, false, false, false, false, false, false, false, false, false, false] rfl rfl (by kernel_rfl) (fun _ _ _ h => h) (Or.inl ⟨by rfl, ?_⟩) ?_ ?_
        rotate_left
        · intro w'
          go_simp
          with_reducible rfl
        rotate_left
        · simp only [Act.put, List.setIfInBounds_toArray, List.set_cons_zero, List.set_cons_succ, i64_w, i32_w]
          rfl
        refine pure_ (i := 1) (N := some 159) (v := ?_) (a' := ?_) #[true, true, false, false, false, false, false, false, false, false, false, false, false, false] rfl rfl (by kernel_rfl) (fun _ _ _ h => h) (Or.inl ⟨by rfl, ?_⟩) ?_ ?_
        rotate_left
        · intro w'
          go_simp
          with_reducible rfl
        rotate_left
        · simp only [Act.put, List.setIfInBounds_toArray, List.set_cons_zero, List.set_cons_succ, i64_w, i32_w]
          rfl
        refine pure_ (i := 2) (N := some 160) (v := ?_) (a' := ?_) #[true, true, true, false, false, false, false, false, false, false, false, false, false, false] rfl rfl (by kernel_rfl) (fun _ _ _ h => h) (Or.inl ⟨by rfl, ?_⟩) ?_ ?_
        rotate_left
        · intro w'
          go_simp
          with_reducible rfl
        rotate_left
        · simp only [Act.put, List.setIfInBounds_toArray, List.set_cons_zero, List.set_cons_succ, i64_w, i32_w]
          rfl
        refine pure_ (i := 3) (N := some 161) (v := ?_) (a' := ?_) #[true, true, true, true, false, false, false, false, false, false, false, false, false, false] rfl rfl (by kernel_rfl) (fun _ _ _ h => h) (Or.inl ⟨by rfl, ?_⟩) ?_ ?_
        rotate_left
        · intro w'
          go_simp
          with_reducible rfl
        rotate_left
        · simp only [Act.put, List.setIfInBounds_toArray, List.set_cons_zero, List.set_cons_succ, i64_w, i32_w]
          rfl
        refine pure_ (i := 4) (N := some 162) (v := ?_) (a' := ?_) #[true, true, true, true, true, false, false, false, false, false, false, false, false, false] rfl rfl (by kernel_rfl) (fun _ _ _ h => h) (Or.inl ⟨by rfl, ?_⟩) ?_ ?_
        rotate_left
        · intro w'
          go_simp
          with_reducible rfl
        rotate_left
        · simp only [Act.put, List.setIfInBounds_toArray, List.set_cons_zero, List.set_cons_succ, i64_w, i32_w]
          rfl
        refine pure_ (i := 5) (N := some 163) (v := ?_) (a' := ?_) #[true, true, true, true, true, true, false, false, false, false, false, false, false, false] rfl rfl (by kernel_rfl) (fun _ _ _ h => h) (Or.inl ⟨by rfl, ?_⟩) ?_ ?_
        rotate_left
        · intro w'
          refine exec_index (.tmp 159) (.tmp 162) ?_ g n c q ?_ ?_ ?_
          · rfl
          · rfl
          · rfl
          · omega
        rotate_left
        · simp only [Act.put, List.setIfInBounds_toArray, List.set_cons_zero, List.set_cons_succ, i64_w, i32_w]
          rfl
        refine pure_ (i := 7) (N := some 165) (v := ?_) (a' := ?_) #[true, true, true, true, true, true, false, true, false, false, false, false, false, false] rfl rfl (by kernel_rfl) (fun _ _ _ h => h) (Or.inl ⟨by rfl, ?_⟩) ?_ ?_
        rotate_left
        · intro w'
          go_simp
          with_reducible rfl
        rotate_left
        · simp only [Act.put, List.setIfInBounds_toArray, List.set_cons_zero, List.set_cons_succ, i64_w, i32_w]
          rfl
        refine pure_ (i := 8) (N := some 166) (v := ?_) (a' := ?_) #[true, true, true, true, true, true, false, true, true, false, false, false, false, false] rfl rfl (by kernel_rfl) (fun _ _ _ h => h) (Or.inl ⟨by rfl, ?_⟩) ?_ ?_
        rotate_left
        · intro w'
          go_simp
          with_reducible rfl
        rotate_left
        · simp only [Act.put, List.setIfInBounds_toArray, List.set_cons_zero, List.set_cons_succ, i64_w, i32_w]
          rfl
        refine pure_ (i := 9) (N := some 167) (v := ?_) (a' := ?_) #[true, true, true, true, true, true, false, true, true, true, false, false, false, false] rfl rfl (by kernel_rfl) (fun _ _ _ h => h) (Or.inl ⟨by rfl, ?_⟩) ?_ ?_
        rotate_left
        · intro w'
          refine exec_index (.tmp 165) (.tmp 166) ?_ g n c h ?_ ?_ ?_
          · rfl
          · rfl
          · rfl
          · omega
        rotate_left
        · simp only [Act.put, List.setIfInBounds_toArray, List.set_cons_zero, List.set_cons_succ, i64_w, i32_w]
          rfl
        refine take_ (i := 6) (N := some 164) (v := .agg #[.string ((fun x => F (s x)) q).f0, .int .i64 ((fun x => F (s x)) q).f1.f0, .int .i64 ((fun x => F (s x)) q).f1.f1, .string ((fun x => F (s x)) q).f1.f2]) (a' := ?_) #[true, true, true, true, true, true, true, true, true, true, false, false, false, false] rfl rfl (by kernel_rfl) (fun _ _ _ h => h) (Or.inl ⟨by rfl, ?_⟩) hHeld ?_ ?_
        · rintro w' hv'
          refine exec_elem (.tmp 163) ?_ g n q _ ?_ hv'.a ?_
          · rfl
          · rfl
          · omega
        rotate_left
        · simp only [Act.put, List.setIfInBounds_toArray, List.set_cons_zero, List.set_cons_succ, i64_w, i32_w]
          rfl
        refine take_ (i := 10) (N := some 168) (v := .agg #[.string ((fun x => F (s x)) h).f0, .int .i64 ((fun x => F (s x)) h).f1.f0, .int .i64 ((fun x => F (s x)) h).f1.f1, .string ((fun x => F (s x)) h).f1.f2]) (a' := ?_) #[true, true, true, true, true, true, true, true, true, true, true, false, false, false] rfl rfl (by kernel_rfl) (fun _ _ _ h => h) (Or.inl ⟨by rfl, ?_⟩) hHeld ?_ ?_
        · rintro w' hv'
          refine exec_elem (.tmp 167) ?_ g n h _ ?_ hv'.a ?_
          · rfl
          · rfl
          · omega
        rotate_left
        · simp only [Act.put, List.setIfInBounds_toArray, List.set_cons_zero, List.set_cons_succ, i64_w, i32_w]
          rfl
        refine one_ (i := 11) (N := some 169) #[true, true, true, true, true, true, true, true, true, true, true, true, false, false] rfl rfl (by kernel_rfl) (by decide) (fun K hK => ?_)
        refine goesV_ Try.func61 (by kernel_rfl) rfl #[.agg #[.string ((fun x => F (s x)) q).f0, .int .i64 ((fun x => F (s x)) q).f1.f0, .int .i64 ((fun x => F (s x)) q).f1.f1, .string ((fun x => F (s x)) q).f1.f2], .agg #[.string ((fun x => F (s x)) h).f0, .int .i64 ((fun x => F (s x)) h).f1.f0, .int .i64 ((fun x => F (s x)) h).f1.f1, .string ((fun x => F (s x)) h).f1.f2]] (by rfl) rfl rfl rfl (by (try simp only [List.map_toArray, List.map_cons, List.map_nil]); first | done | rfl) ?_
        refine (kc_w _ _ _ _ hkv.out).mono ?_
        rintro e w' ⟨rfl, hb⟩
        have hH2 := Aside0.mk (hHeld.keep hb)
        clear hb
        refine ⟨_, rfl, ?_⟩
        refine hK.out _ _ (hH2.out) (fun hHeld => ?_)
        clear hK K
        refine norm_ (a' := ?_) ?_ ?_
        rotate_left
        · show Act.put _ (some 169) _ = _
          simp only [Act.put, List.setIfInBounds_toArray, List.set_cons_zero, List.set_cons_succ, i64_w, i32_w]
          rfl
        refine pure_ (i := 12) (N := some 170) (v := ?_) (a' := ?_) #[true, true, true, true, true, true, true, true, true, true, true, true, true, false] rfl rfl (by kernel_rfl) (fun _ _ _ h => h) (Or.inl ⟨by rfl, ?_⟩) ?_ ?_
        rotate_left
        · intro w'
          go_simp
          with_reducible rfl
        rotate_left
        · simp only [Act.put, List.setIfInBounds_toArray, List.set_cons_zero, List.set_cons_succ, i64_w, i32_w]
          rfl
        refine pure_ (i := 13) (N := some 171) (v := ?_) (a' := ?_) #[true, true, true, true, true, true, true, true, true, true, true, true, true, true] rfl rfl (by kernel_rfl) (fun _ _ _ h => h) (Or.inl ⟨by rfl, ?_⟩) ?_ ?_
        rotate_left
        · intro w'
          go_simp
          with_reducible rfl
        rotate_left
        · simp only [Act.put, List.setIfInBounds_toArray, List.set_cons_zero, List.set_cons_succ, i64_w, i32_w]
          rfl
        refine done_ (by kernel_rfl) ?_
        replace hS := Aside0.mk hHeld
        clear hHeld
        have hI1 : IntKind.i64.wrap ((h : Int) + 1) = ((h + 1 : Nat) : Int) := by rw [IntWalk.i64_in _ (by omega)]; omega
        go_wp2
        · rename ((!decide (kv < 0)) = true) => hz
          have hneg : ¬ kv < 0 := by intro h3; rw [decide_eq_true h3] at hz; exact absurd hz (by decide)
          clear hz
          go_roundg k1
          case measure => omega
          case rel => exact ⟨h + 1, r, rfl, rfl, by omega, by omega, by omega, by omega, by omega, by omega, ⟨fun _ _ => by rw [hqe.out.1, show h + 1 - 1 = h from rfl, hkv.out]; omega, hB.out.2⟩, hS⟩
        · rename ((!decide (kv < 0)) = false) => hz
          have hneg : kv < 0 := by
            by_cases h3 : kv < 0
            · exact h3
            · rw [decide_eq_false h3] at hz; exact absurd hz (by decide)
          clear hz
          go_roundg k1
          case measure => omega
          case rel => exact ⟨st, h, rfl, rfl, by omega, by omega, by omega, by omega, by omega, by omega, ⟨fun h3 h4 => by have := hB.out.1 h3 h4; omega, fun _ _ => by rw [hqe.out.2, hkv.out]; exact hneg⟩, hS⟩
      · obtain rfl : st = r := by omega
        clear hk
        obtain ⟨en, hen⟩ : ∃ en : Nat, nn - st = en := ⟨_, rfl⟩
        have henI : IntKind.i64.wrap ((nn : Int) - (st : Int)) = (en : Int) := by rw [IntWalk.i64_in _ (by omega)]; omega
        have hmide : st + (en - m) = mid := by omega
        have hC : Cut F s a m b st en := ⟨has, hrm, by omega, by omega, fun h1 h2 => by have := hB.out.1 h1 (by omega); rw [← hen]; omega, fun h1 h2 => by have := hB.out.2 h1 (by omega); rw [← hen]; exact this⟩
        have hH := Aside0.mk (cut_halves hC hP.out hmide)
        have hW := Aside0.mk (fun (t u : Nat → Nat) (h1 : Same (rotN s st m en) t a mid ∧ Srt F t a mid) (h2 : Same t u mid b ∧ Srt F u mid b) => cut_whole hC hP.out hmide h1 h2)
        clear hC
        have g1 : mid ≤ en := by omega
        have g2 : en ≤ b := by omega
        have g3 : m ≤ en := by omega
        have g4 : en - m = mid - st := by omega
        clear hnn hp hpI hnnI hen hm3 hm4 hB
        by_cases hA1 : st < m <;> by_cases hB1 : st < mid <;> by_cases hC1 : a < st <;> by_cases hD1 : en < b
        · have f0 : ((st : Int) < (m : Int)) := by omega
          have f1 : ((mid : Int) < (en : Int)) := by omega
          have f2 : ((st : Int) < (mid : Int)) := by omega
          have f3 : ((m : Int) < (en : Int)) := by omega
          have f4 : ((a : Int) < (st : Int)) := by omega
          have f5 : ((en : Int) < (b : Int)) := by omega
          have hf1 : Aside0 True := ⟨trivial⟩
          have hf2 : Aside0 True := ⟨trivial⟩
          go_wp2_with (first | (clear hf1; go_at_call 131; refine (rot_w _ g n c F s st m en hn (by omega) (by omega) (by omega) hS.out.a).mono ?_; rintro e w1 ⟨rfl, hA1, hO1⟩; replace hS := Aside0.mk (Sv.mk hA1 (hS.out.o.trans hO1)); clear hA1 hO1) | (clear hf2; go_at_call 116; refine (hrec.out _ (rotN s st m en) a st mid (by omega) (by omega) (by omega) (by omega) hH.out.1 hS.out.a).mono ?_; rintro e w1 ⟨rfl, t, hA1, ht1, ht2, hO1⟩; replace hS := Aside0.mk (Sv.mk hA1 (hS.out.o.trans hO1)); have ht := Aside0.mk (And.intro ht1 ht2); clear hA1 ht1 ht2 hO1) | (go_at_call 116; refine (hrec.out _ _ mid en b (by omega) (by omega) (by omega) (by omega) (Pre.of_eq hH.out.2 (fun x hx _ => ht.out.1.2.2 x (by omega))) hS.out.a).mono ?_; rintro e w1 ⟨rfl, u, hA1, hu1, hu2, hO1⟩; replace hS := Aside0.mk (Sv.mk hA1 (hS.out.o.trans hO1)); have hu := Aside0.mk (And.intro hu1 hu2); clear hA1 hu1 hu2 hO1))
          go_end0
          have hz := hW.out _ _ ht.out hu.out
          exact ⟨rfl, _, hS.out.a, hz.1, hz.2, hS.out.o⟩
        · have f0 : ((st : Int) < (m : Int)) := by omega
          have f1 : ((mid : Int) < (en : Int)) := by omega
          have f2 : ((st : Int) < (mid : Int)) := by omega
          have f3 : ((m : Int) < (en : Int)) := by omega
          have f4 : ((a : Int) < (st : Int)) := by omega
          have f5 : ¬ ((en : Int) < (b : Int)) := by omega
          have hf1 : Aside0 True := ⟨trivial⟩
          have hf2 : Aside0 True := ⟨trivial⟩
          go_wp2_with (first | (clear hf1; go_at_call 131; refine (rot_w _ g n c F s st m en hn (by omega) (by omega) (by omega) hS.out.a).mono ?_; rintro e w1 ⟨rfl, hA1, hO1⟩; replace hS := Aside0.mk (Sv.mk hA1 (hS.out.o.trans hO1)); clear hA1 hO1) | (clear hf2; go_at_call 116; refine (hrec.out _ (rotN s st m en) a st mid (by omega) (by omega) (by omega) (by omega) hH.out.1 hS.out.a).mono ?_; rintro e w1 ⟨rfl, t, hA1, ht1, ht2, hO1⟩; replace hS := Aside0.mk (Sv.mk hA1 (hS.out.o.trans hO1)); have ht := Aside0.mk (And.intro ht1 ht2); clear hA1 ht1 ht2 hO1))
          go_end0
          have hz := hW.out _ _ ht.out (And.intro (Same.refl _ mid b) ((Pre.of_eq hH.out.2 (fun x hx _ => ht.out.1.2.2 x (by omega))).merged (by omega)))
          exact ⟨rfl, _, hS.out.a, hz.1, hz.2, hS.out.o⟩
        · have f0 : ((st : Int) < (m : Int)) := by omega
          have f1 : ((mid : Int) < (en : Int)) := by omega
          have f2 : ((st : Int) < (mid : Int)) := by omega
          have f3 : ((m : Int) < (en : Int)) := by omega
          have f4 : ¬ ((a : Int) < (st : Int)) := by omega
          have f5 : ((en : Int) < (b : Int)) := by omega
          have hf1 : Aside0 True := ⟨trivial⟩
          have ht : Aside0 (Same (rotN s st m en) (rotN s st m en) a mid ∧ Srt F (rotN s st m en) a mid) := ⟨⟨Same.refl _ _ _, hH.out.1.merged (by omega)⟩⟩
          go_wp2_with (first | (clear hf1; go_at_call 131; refine (rot_w _ g n c F s st m en hn (by omega) (by omega) (by omega) hS.out.a).mono ?_; rintro e w1 ⟨rfl, hA1, hO1⟩; replace hS := Aside0.mk (Sv.mk hA1 (hS.out.o.trans hO1)); clear hA1 hO1) | (go_at_call 116; refine (hrec.out _ _ mid en b (by omega) (by omega) (by omega) (by omega) (Pre.of_eq hH.out.2 (fun x hx _ => ht.out.1.2.2 x (by omega))) hS.out.a).mono ?_; rintro e w1 ⟨rfl, u, hA1, hu1, hu2, hO1⟩; replace hS := Aside0.mk (Sv.mk hA1 (hS.out.o.trans hO1)); have hu := Aside0.mk (And.intro hu1 hu2); clear hA1 hu1 hu2 hO1))
          go_end0
          have hz := hW.out _ _ ht.out hu.out
          exact ⟨rfl, _, hS.out.a, hz.1, hz.2, hS.out.o⟩
        · have f0 : ((st : Int) < (m : Int)) := by omega
          have f1 : ((mid : Int) < (en : Int)) := by omega
          have f2 : ((st : Int) < (mid : Int)) := by omega
          have f3 : ((m : Int) < (en : Int)) := by omega
          have f4 : ¬ ((a : Int) < (st : Int)) := by omega
          have f5 : ¬ ((en : Int) < (b : Int)) := by omega
          have hf1 : Aside0 True := ⟨trivial⟩
          have ht : Aside0 (Same (rotN s st m en) (rotN s st m en) a mid ∧ Srt F (rotN s st m en) a mid) := ⟨⟨Same.refl _ _ _, hH.out.1.merged (by omega)⟩⟩
          go_wp2_with (first | (clear hf1; go_at_call 131; refine (rot_w _ g n c F s st m en hn (by omega) (by omega) (by omega) hS.out.a).mono ?_; rintro e w1 ⟨rfl, hA1, hO1⟩; replace hS := Aside0.mk (Sv.mk hA1 (hS.out.o.trans hO1)); clear hA1 hO1))
          go_end0
          have hz := hW.out _ _ ht.out (And.intro (Same.refl _ mid b) ((Pre.of_eq hH.out.2 (fun x hx _ => ht.out.1.2.2 x (by omega))).merged (by omega)))
          exact ⟨rfl, _, hS.out.a, hz.1, hz.2, hS.out.o⟩
        · exact absurd hmm (by omega)
        · exact absurd hmm (by omega)
        · exact absurd hmm (by omega)
        · exact absurd hmm (by omega)
        · have f0 : ¬ ((st : Int) < (m : Int)) := by omega
          have f1 : ¬ ((mid : Int) < (en : Int)) := by omega
          have f2 : ((st : Int) < (mid : Int)) := by omega
          have f3 : ((m : Int) < (en : Int)) := by omega
          have f4 : ((a : Int) < (st : Int)) := by omega
          have f5 : ((en : Int) < (b : Int)) := by omega
          replace hS : Aside0 (Sv w wr g n (fun x => F (rotN s st m en x))) := ⟨by rw [rotN_id s st m en (by omega) (by omega) (by omega)]; exact hS.out⟩
          have hf2 : Aside0 True := ⟨trivial⟩
          go_wp2_with (first | (clear hf2; go_at_call 116; refine (hrec.out _ (rotN s st m en) a st mid (by omega) (by omega) (by omega) (by omega) hH.out.1 hS.out.a).mono ?_; rintro e w1 ⟨rfl, t, hA1, ht1, ht2, hO1⟩; replace hS := Aside0.mk (Sv.mk hA1 (hS.out.o.trans hO1)); have ht := Aside0.mk (And.intro ht1 ht2); clear hA1 ht1 ht2 hO1))
          go_end0
          have hz := hW.out _ _ ht.out (And.intro (Same.refl _ mid b) ((Pre.of_eq hH.out.2 (fun x hx _ => ht.out.1.2.2 x (by omega))).merged (by omega)))
          exact ⟨rfl, _, hS.out.a, hz.1, hz.2, hS.out.o⟩
        · exact absurd hm2 (by omega)
        · have f0 : ¬ ((st : Int) < (m : Int)) := by omega
          have f1 : ¬ ((mid : Int) < (en : Int)) := by omega
          have f2 : ((st : Int) < (mid : Int)) := by omega
          have f3 : ((m : Int) < (en : Int)) := by omega
          have f4 : ¬ ((a : Int) < (st : Int)) := by omega
          have f5 : ((en : Int) < (b : Int)) := by omega
          replace hS : Aside0 (Sv w wr g n (fun x => F (rotN s st m en x))) := ⟨by rw [rotN_id s st m en (by omega) (by omega) (by omega)]; exact hS.out⟩
          have ht : Aside0 (Same (rotN s st m en) (rotN s st m en) a mid ∧ Srt F (rotN s st m en) a mid) := ⟨⟨Same.refl _ _ _, hH.out.1.merged (by omega)⟩⟩
          go_wp2
          go_end0
          have hz := hW.out _ _ ht.out (And.intro (Same.refl _ mid b) ((Pre.of_eq hH.out.2 (fun x hx _ => ht.out.1.2.2 x (by omega))).merged (by omega)))
          exact ⟨rfl, _, hS.out.a, hz.1, hz.2, hS.out.o⟩
        · exact absurd hm2 (by omega)
        · have f0 : ¬ ((st : Int) < (m : Int)) := by omega
          have f1 : ¬ ((mid : Int) < (en : Int)) := by omega
          have f2 : ¬ ((st : Int) < (mid : Int)) := by omega
          have f3 : ¬ ((m : Int) < (en : Int)) := by omega
          have f4 : ((a : Int) < (st : Int)) := by omega
          have f5 : ((en : Int) < (b : Int)) := by omega
          replace hS : Aside0 (Sv w wr g n (fun x => F (rotN s st m en x))) := ⟨by rw [rotN_id s st m en (by omega) (by omega) (by omega)]; exact hS.out⟩
          have ht : Aside0 (Same (rotN s st m en) (rotN s st m en) a mid ∧ Srt F (rotN s st m en) a mid) := ⟨⟨Same.refl _ _ _, hH.out.1.merged (by omega)⟩⟩
          go_wp2
          go_end0
          have hz := hW.out _ _ ht.out (And.intro (Same.refl _ mid b) ((Pre.of_eq hH.out.2 (fun x hx _ => ht.out.1.2.2 x (by omega))).merged (by omega)))
          exact ⟨rfl, _, hS.out.a, hz.1, hz.2, hS.out.o⟩
        · exact absurd hm2 (by omega)
        · exact absurd hm1 (by omega)
        · exact absurd hm2 (by omega)
end Go.Proofs.Ytllepjhimkogjaa.Rw
namespace Go.Proofs.Ytllepjhimkogjaa.Rw
open Go.RowKit Go.Proofs.Ytllepjhimkogjaa.Ob Go.Proofs.YtllepjhimkogjaaW.PrintWords Go.Proofs.YtllepjhimkogjaaW.PrintLast Go.Proofs.Ytllepjhimkogjaa.Two
set_option linter.unusedSimpArgs false
set_option linter.unusedVariables false
theorem sym_all (g n c : Nat) (F : Nat → E) (hn : n ≤ 1000) : ∀ N (w : World) (s : Nat → Nat) (a m b : Nat), b - a ≤ N → b ≤ n → a < m → m < b → Pre F s a m b → At w g n (fun x => F (s x)) → Calls Try.prog 116 #[.slice (some ⟨g, 0, none⟩) n c, .int .i64 (a : Int), .int .i64 (m : Int), .int .i64 (b : Int), .func (.func 61) #[] #[]] w (Merged F s a b g n w)
  | 0, w, s, a, m, b, h, _, h2, h3, _, _ => absurd h (by omega)
  | N + 1, w, s, a, m, b, h, hb, h2, h3, hP, hA => by
    by_cases e1 : a + 1 = m
    · exact sym_left w g n c F s a m b hn hb e1 (by omega) hP hA
    · by_cases e2 : m + 1 = b
      · exact sym_right w g n c F s a m b hn hb e2 (by omega) e1 hP hA
      · exact sym_gen w g n c F s a m b hn hb h2 h3 e1 e2 hP hA (fun w' s' a' m' b' hb' k1 k2 k3 hP' hA' => sym_all g n c F hn N w' s' a' m' b' (by omega) hb' k1 k2 hP' hA')
end Go.Proofs.Ytllepjhimkogjaa.Rw
namespace Go.Proofs.Ytllepjhimkogjaa.Rw
open Go.Proofs.Ytllepjhimkogjaa.Sk
set_option linter.unusedSimpArgs false
set_option linter.unusedVariables false
def insL (x : E) : List E → List E
  | [] => [x]
  | y :: l => if kc x y < 0 then x :: y :: l else y :: insL x l
def srtL (l : List E) : List E := l.foldl (fun a x => insL x a) []
def insP (F : Nat → E) (x : Nat) : List Nat → List Nat
  | [] => [x]
  | y :: l => if kc (F x) (F y) < 0 then x :: y :: l else y :: insP F x l
theorem insP_map (F : Nat → E) (x : Nat) (l : List Nat) : (insP F x l).map F = insL (F x) (l.map F) := by
  induction l with
  | nil => rfl
  | cons y l ih =>
    rw [insP, List.map_cons, insL]
    split
    · rfl
    · rw [List.map_cons, ih]
theorem insP_mem (F : Nat → E) (x z : Nat) (l : List Nat) : z ∈ insP F x l ↔ z = x ∨ z ∈ l := by
  induction l with
  | nil => simp [insP]
  | cons y l ih =>
    rw [insP]
    split
    · simp
    · rw [List.mem_cons, ih, List.mem_cons]
      constructor
      · rintro (h | h | h) <;> simp [h]
      · rintro (h | h | h) <;> simp [h]
theorem insP_pair (F : Nat → E) (x : Nat) (l : List Nat) (h : l.Pairwise (L F)) (hx : ∀ y ∈ l, y < x) : (insP F x l).Pairwise (L F) := by
  induction l with
  | nil => simp [insP]
  | cons y l ih =>
    obtain ⟨h1, h2⟩ := List.pairwise_cons.1 h
    rw [insP]
    by_cases c : kc (F x) (F y) < 0
    · rw [if_pos c]
      refine List.pairwise_cons.2 ⟨fun z hz => ?_, h⟩
      rcases List.mem_cons.1 hz with e | e
      · rw [e]; exact Or.inl c
      · exact L_trans F (Or.inl c) (h1 z e)
    · rw [if_neg c]
      refine List.pairwise_cons.2 ⟨fun z hz => ?_, ih h2 (fun z hz => hx z (List.mem_cons_of_mem _ hz))⟩
      rcases (insP_mem F x z l).1 hz with e | e
      · rw [e]; exact L_of_ge F c (hx y (List.mem_cons_self ..))
      · exact h1 z e
theorem pair_uniq (F : Nat → E) : ∀ (a b : List Nat), a.Pairwise (L F) → b.Pairwise (L F) → (∀ z, z ∈ a ↔ z ∈ b) → a = b
  | [], [], _, _, _ => rfl
  | [], y :: b, _, _, h => by have := (h y).2 (List.mem_cons_self ..); cases this
  | x :: a, [], _, _, h => by have := (h x).1 (List.mem_cons_self ..); cases this
  | x :: a, y :: b, ha, hb, h => by
    obtain ⟨a1, a2⟩ := List.pairwise_cons.1 ha
    obtain ⟨b1, b2⟩ := List.pairwise_cons.1 hb
    have e : x = y := by
      rcases List.mem_cons.1 ((h x).1 (List.mem_cons_self ..)) with e | e
      · exact e
      · rcases List.mem_cons.1 ((h y).2 (List.mem_cons_self ..)) with e2 | e2
        · exact e2.symm
        · exact absurd (L_trans F (b1 x e) (a1 y e2)) (L_irrefl F y)
    subst e
    rw [pair_uniq F a b a2 b2 (fun z => ?_)]
    have hz := h z
    rw [List.mem_cons, List.mem_cons] at hz
    constructor
    · intro h1
      rcases hz.1 (Or.inr h1) with e | e
      · subst e; exact absurd (a1 z h1) (L_irrefl F z)
      · exact e
    · intro h1
      rcases hz.2 (Or.inr h1) with e | e
      · subst e; exact absurd (b1 z h1) (L_irrefl F z)
      · exact e
def plc (F : Nat → E) : Nat → List Nat
  | 0 => []
  | n + 1 => insP F n (plc F n)
theorem plc_mem (F : Nat → E) (n z : Nat) : z ∈ plc F n ↔ z < n := by
  induction n with
  | zero => simp [plc]
  | succ n ih => rw [plc, insP_mem, ih]; omega
theorem plc_pair (F : Nat → E) (n : Nat) : (plc F n).Pairwise (L F) := by
  induction n with
  | zero => exact List.Pairwise.nil
  | succ n ih => exact insP_pair F n _ ih (fun y hy => (plc_mem F n y).1 hy)
theorem plc_map (F : Nat → E) (n : Nat) : (plc F n).map F = srtL ((List.range n).map F) := by
  induction n with
  | zero => rfl
  | succ n ih =>
    rw [plc, insP_map, ih, List.range_succ, List.map_append]
    unfold srtL
    rw [List.foldl_append]; rfl
theorem srt_is {F : Nat → E} {t : Nat → Nat} {n : Nat} (h : Same (fun x => x) t 0 n) (k : Srt F t 0 n) : (List.range n).map (fun x => F (t x)) = srtL ((List.range n).map F) := by
  rw [← plc_map, ← pair_uniq F ((List.range n).map t) (plc F n) ?_ (plc_pair F n) (fun z => ?_)]
  · rw [List.map_map]; rfl
  · rw [List.pairwise_map]
    refine List.Pairwise.imp_of_mem ?_ List.pairwise_lt_range
    intro i j hi hj hij
    exact k i j (Nat.zero_le _) hij (List.mem_range.1 hj)
  · rw [plc_mem, List.mem_map]
    constructor
    · rintro ⟨x, hx, rfl⟩
      obtain ⟨y, _, h2, e⟩ := h.1 x (Nat.zero_le _) (List.mem_range.1 hx)
      rw [e]; exact h2
    · intro hz
      obtain ⟨x, _, h2, e⟩ := h.2.1 z (Nat.zero_le _) hz
      exact ⟨x, List.mem_range.2 h2, e⟩
def Ord (l : List E) : Prop := l.Pairwise (fun x y => kc x y ≤ 0)
theorem insL_mem (x z : E) (l : List E) : z ∈ insL x l ↔ z = x ∨ z ∈ l := by
  induction l with
  | nil => simp [insL]
  | cons y l ih =>
    rw [insL]
    split
    · simp
    · rw [List.mem_cons, ih, List.mem_cons]
      constructor
      · rintro (h | h | h) <;> simp [h]
      · rintro (h | h | h) <;> simp [h]
theorem insL_length (x : E) (l : List E) : (insL x l).length = l.length + 1 := by
  induction l with
  | nil => rfl
  | cons y l ih =>
    rw [insL]
    split
    · rfl
    · rw [List.length_cons, ih, List.length_cons]
theorem insL_ord (x : E) (l : List E) (h : Ord l) : Ord (insL x l) := by
  induction l with
  | nil => simp [insL, Ord]
  | cons y l ih =>
    obtain ⟨h1, h2⟩ := List.pairwise_cons.1 h
    rw [insL]
    by_cases c : kc x y < 0
    · rw [if_pos c]
      refine List.pairwise_cons.2 ⟨fun z hz => ?_, h⟩
      rcases List.mem_cons.1 hz with e | e
      · rw [e]; omega
      · exact kc_trans (by omega) (h1 z e)
    · rw [if_neg c]
      refine List.pairwise_cons.2 ⟨fun z hz => ?_, ih h2⟩
      rcases (insL_mem x z l).1 hz with e | e
      · rw [e]; have := kc_swap x y; omega
      · exact h1 z e
theorem insL_find (x : E) (l : List E) (h : Ord l) (q : ByteArray) : (insL x l).find? (fun y => decide (y.f0 = q)) = (l.find? (fun y => decide (y.f0 = q))).or (if x.f0 = q then some x else none) := by
  induction l with
  | nil =>
    rw [insL, List.find?_cons]
    by_cases hq : x.f0 = q <;> simp [hq]
  | cons y l ih =>
    obtain ⟨h1, h2⟩ := List.pairwise_cons.1 h
    rw [insL]
    by_cases c : kc x y < 0
    · rw [if_pos c, List.find?_cons]
      by_cases hq : x.f0 = q
      · have e : (y :: l).find? (fun y => decide (y.f0 = q)) = none := by
          rw [List.find?_eq_none]
          intro z hz hzq
          have e1 : x.f0 = z.f0 := by rw [hq, of_decide_eq_true hzq]
          have hyz : kc y z ≤ 0 := by
            rcases List.mem_cons.1 hz with e | e
            · rw [e]; have := kc_swap y y; omega
            · exact h1 z e
          have h3 := kc_lt c hyz
          have h4 : kc x z = kc x x := by unfold kc; rw [e1]
          have := kc_swap x x; omega
        rw [e, decide_eq_true hq, if_pos hq]; rfl
      · rw [decide_eq_false hq, if_neg hq]; simp
    · rw [if_neg c, List.find?_cons, List.find?_cons]
      cases hq : (decide (y.f0 = q)) with
      | true => rfl
      | false => exact ih h2
theorem fold_facts (l : List E) : ∀ (a : List E), Ord a → Ord (l.foldl (fun a x => insL x a) a) ∧ (l.foldl (fun a x => insL x a) a).length = a.length + l.length ∧ (∀ z, z ∈ l.foldl (fun a x => insL x a) a ↔ z ∈ a ∨ z ∈ l) ∧ (∀ q, (l.foldl (fun a x => insL x a) a).find? (fun y => decide (y.f0 = q)) = (a.find? (fun y => decide (y.f0 = q))).or (l.find? (fun y => decide (y.f0 = q)))) := by
  induction l with
  | nil => intro a ha; exact ⟨ha, rfl, fun z => by simp, fun q => by simp⟩
  | cons x l ih =>
    intro a ha
    obtain ⟨h1, h2, h3, h4⟩ := ih (insL x a) (insL_ord x a ha)
    refine ⟨h1, by rw [List.foldl_cons, h2, insL_length, List.length_cons]; omega, fun z => ?_, fun q => ?_⟩
    · rw [List.foldl_cons, h3, insL_mem, List.mem_cons]
      constructor
      · rintro ((h | h) | h) <;> simp [h]
      · rintro (h | h | h) <;> simp [h]
    · rw [List.foldl_cons, h4, insL_find x a ha, List.find?_cons, Option.or_assoc]
      by_cases hq : x.f0 = q <;> simp [hq]
theorem srtL_ord (l : List E) : Ord (srtL l) := (fold_facts l [] List.Pairwise.nil).1
theorem srtL_length (l : List E) : (srtL l).length = l.length := by have := (fold_facts l [] List.Pairwise.nil).2.1; rw [List.length_nil, Nat.zero_add] at this; exact this
theorem srtL_mem (l : List E) (z : E) : z ∈ srtL l ↔ z ∈ l := by have := (fold_facts l [] List.Pairwise.nil).2.2.1 z; unfold srtL; simpa using this
theorem srtL_find (l : List E) (q : ByteArray) : (srtL l).find? (fun y => decide (y.f0 = q)) = l.find? (fun y => decide (y.f0 = q)) := by have := (fold_facts l [] List.Pairwise.nil).2.2.2 q; unfold srtL; simpa using this
theorem insL_end (x : E) (l : List E) (h : ∀ y ∈ l, kc y x ≤ 0) : insL x l = l ++ [x] := by
  induction l with
  | nil => rfl
  | cons y l ih =>
    have h1 := h y (List.mem_cons_self ..)
    have := kc_swap x y
    rw [insL, if_neg (by omega), ih (fun z hz => h z (List.mem_cons_of_mem _ hz))]; rfl
theorem fold_ord (l : List E) : ∀ (a : List E), Ord (a ++ l) → l.foldl (fun a x => insL x a) a = a ++ l := by
  induction l with
  | nil => intro a _; simp
  | cons x l ih =>
    intro a h
    have h1 : ∀ y ∈ a, kc y x ≤ 0 := fun y hy => (List.pairwise_append.1 h).2.2 y hy x (List.mem_cons_self ..)
    rw [List.foldl_cons, insL_end x a h1, ih (a ++ [x]) (by rw [List.append_assoc]; exact h), List.append_assoc]; rfl
theorem srtL_id (l : List E) (h : Ord l) : srtL l = l := fold_ord l [] h
end Go.Proofs.Ytllepjhimkogjaa.Rw
namespace Go.Proofs.Ytllepjhimkogjaa.Rw
open Go.RowKit Go.Proofs.Ytllepjhimkogjaa.Ob Go.Proofs.YtllepjhimkogjaaW.PrintWords Go.Proofs.YtllepjhimkogjaaW.PrintLast Go.Proofs.Ytllepjhimkogjaa.Two
set_option linter.unusedSimpArgs false
set_option linter.unusedVariables false
theorem ins_step {F : Nat → E} {s t : Nat → Nat} {a i j : Nat} (hx : ∀ p q, a ≤ p → p < q → q < i + 1 → s p < s q) (hai : a ≤ i) (h1 : Same s t a i) (h2 : Srt F t a i) (hj : a ≤ j) (hji : j ≤ i) (c1 : a < j → ¬ kc (F (t i)) (F (t (j - 1))) < 0) (c2 : j < i → kc (F (t i)) (F (t j)) < 0) :
    Same s (rotN t j i (i + 1)) a (i + 1) ∧ Srt F (rotN t j i (i + 1)) a (i + 1) := by
  have hP : Pre F t a i (i + 1) := ⟨hai, Nat.le_succ _, h2, fun p q hp hpq hq => absurd hpq (by omega), fun p q hp hpi hq hqi => by
    obtain ⟨y, hy1, hy2, ey⟩ := h1.1 p hp hpi
    obtain rfl : q = i := by omega
    rw [ey, h1.2.2 q (by omega)]
    exact hx y q hy1 hy2 hqi⟩
  have h3 := one_right hP hj hji c1 c2
  exact ⟨(h1.widen (Nat.le_refl _) (Nat.le_succ _)).trans h3.1, h3.2⟩
set_option maxHeartbeats 8000000 in
set_option maxRecDepth 1000000 in
theorem ins_same (w : World) (g n c : Nat) (F : Nat → E) (s : Nat → Nat) (a : Nat) (hn : n ≤ 1000) (hb : a ≤ n) (hA : At w g n (fun x => F (s x))) :
    Calls Try.prog 115 #[.slice (some ⟨g, 0, none⟩) n c, .int .i64 (a : Int), .int .i64 (a : Int), .func (.func 61) #[] #[]] w (Merged F s a a g n w) := by
  have hA := Aside0.mk hA
  have hI : IntKind.i64.wrap ((a : Int) + 1) = ((a + 1 : Nat) : Int) := by rw [IntWalk.i64_in _ (by omega)]; omega
  have hL : ¬ (((a + 1 : Nat) : Int) < (a : Int)) := by omega
  go_enter Try.func115, Try.ntmps115
  go_wp2
  refine wp_loop_rounds 1 ?_
  rw [rounds_succ]
  go_wp2
  go_end0
  exact ⟨rfl, s, hA.out, Same.refl _ _ _, fun i j h1 h2 h3 => absurd h1 (by omega), Only.refl _ _⟩
set_option maxHeartbeats 8000000 in
set_option maxRecDepth 1000000 in
theorem ins_walk (w : World) (g n c : Nat) (F : Nat → E) (s : Nat → Nat) (a b : Nat) (hn : n ≤ 1000) (hb : b ≤ n) (hab : a < b) (hx : ∀ p q, a ≤ p → p < q → q < b → s p < s q) (hA : At w g n (fun x => F (s x))) :
    Calls Try.prog 115 #[.slice (some ⟨g, 0, none⟩) n c, .int .i64 (a : Int), .int .i64 (b : Int), .func (.func 61) #[] #[]] w (Merged F s a b g n w) := by
  have hS := Aside0.mk (Sv.mk hA (Only.refl (fun q => q = g) w))
  clear hA
  replace hx := Aside0.mk hx
  have hI : IntKind.i64.wrap ((a : Int) + 1) = ((a + 1 : Nat) : Int) := by rw [IntWalk.i64_in _ (by omega)]; omega
  go_enter Try.func115, Try.ntmps115
  go_wp2
  clear hI
  go_loopg [8] (b + 1) (fun kq v8 wr => ∃ (i : Nat) (t : Nat → Nat), v8 = .int .i64 (i : Int) ∧ a < i ∧ i ≤ b ∧ b - i < kq ∧ Aside0 (Same s t a i ∧ Srt F t a i) ∧ Aside0 (Sv w wr g n (fun x => F (t x))))
  case atStart => exact ⟨a + 1, s, rfl, by omega, by omega, by omega, ⟨Same.refl _ _ _, fun i j h1 h2 h3 => absurd h2 (by omega)⟩, hS⟩
  case round =>
    clear hS
    obtain ⟨i, t, rfl, hai, hib, hk, hB, hS⟩ := hrel
    obtain ⟨k1, rfl⟩ : ∃ m, gk = m + 1 := ⟨gk - 1, by omega⟩
    by_cases hlt : i < b
    · have hltI : (i : Int) < (b : Int) := by omega
      have hiI : IntKind.i64.wrap ((i : Int) + 1) = ((i + 1 : Nat) : Int) := by rw [IntWalk.i64_in _ (by omega)]; omega
      go_wp2
      go_loopg [9] (i + 1) (fun kq2 v9 wr => ∃ j : Nat, v9 = .int .i64 (j : Int) ∧ a ≤ j ∧ j ≤ i ∧ j - a < kq2 ∧ Aside0 (j < i → kc (F (t i)) (F (t j)) < 0) ∧ Aside0 (Sv w wr g n (fun x => F (rotN t j i (i + 1) x))))
      case atStart => exact ⟨i, rfl, by omega, Nat.le_refl _, by omega, ⟨fun h => absurd h (by omega)⟩, by rw [rotN_id _ _ _ _ (Or.inl rfl) (Nat.le_refl _) (Nat.le_succ _)]; exact hS⟩
      case round =>
        clear hS
        obtain ⟨j, rfl, haj, hji, hk2, hB2, hS⟩ := hrel
        obtain ⟨k2, rfl⟩ : ∃ m, gk = m + 1 := ⟨gk - 1, by omega⟩
        by_cases hj : a < j
        · have hjI : (a : Int) < (j : Int) := by omega
          obtain ⟨q, hq⟩ : ∃ q : Nat, j - 1 = q := ⟨_, rfl⟩
          have hqI : IntKind.i64.wrap ((j : Int) - 1) = (q : Int) := by rw [IntWalk.i64_in _ (by omega)]; omega
          obtain ⟨kv, hkv⟩ : ∃ kv, kc (F (rotN t j i (i + 1) j)) (F (rotN t j i (i + 1) q)) = kv := ⟨_, rfl⟩
          have hkv2 : kc (F (t i)) (F (t q)) = kv := by
            rw [← hkv, rotN_lo (Nat.le_refl _) (by omega), rotN_off hji (by omega) (by omega)]
            congr 3; omega
          replace hkv := Aside0.mk hkv
          replace hkv2 := Aside0.mk hkv2
          have hqj : q + 1 = j := by omega
          have haq : a ≤ q := by omega
          clear hq
          go_wp2
          have hS := hS.out.drew
          refine start_ (n := 17) (S := fun W => Sv w W g n (fun x => F (rotN t j i (i + 1) x))) (ds := []) #[false, false, false, false, false, false, false, false, false, false, false, false, false, false, false, false, false] (by kernel_rfl) rfl rfl hS (fun hHeld => ?_)
          clear hS
          refine pure_ (i := 0) (N := some 18) (v := ?_) (a' := ?_) #[true, false, false, false, false, false, false, false, false, false, false, false, false, false, false, false, false] rfl rfl (by kernel_rfl) (fun _ _ _ h => h) (Or.inl ⟨by rfl, ?_⟩) ?_ ?_
          rotate_left
          · intro w'
            go_simp
            with_reducible rfl
          rotate_left
          · simp only [Act.put, List.setIfInBounds_toArray, List.set_cons_zero, List.set_cons_succ, i64_w, i32_w]
            rfl
          refine pure_ (i := 1) (N := some 19) (v := ?_) (a' := ?_) #[true, true, false, false, false, false, false, false, false, false, false, false, false, false, false, false, false] rfl rfl (by kernel_rfl) (fun _ _ _ h => h) (Or.inl ⟨by rfl, ?_⟩) ?_ ?_
          rotate_left
          · intro w'
            go_simp
            with_reducible rfl
          rotate_left
          · simp only [Act.put, List.setIfInBounds_toArray, List.set_cons_zero, List.set_cons_succ, i64_w, i32_w]
            rfl
          refine pure_ (i := 2) (N := some 20) (v := ?_) (a' := ?_) #[true, true, true, false, false, false, false, false, false, false, false, false, false, false, false, false, false] rfl rfl (by kernel_rfl) (fun _ _ _ h => h) (Or.inl ⟨by rfl, ?_⟩) ?_ ?_
          rotate_left
          · intro w'
            go_simp
            with_reducible rfl
          rotate_left
          · simp only [Act.put, List.setIfInBounds_toArray, List.set_cons_zero, List.set_cons_succ, i64_w, i32_w]
            rfl
          refine pure_ (i := 3) (N := some 21) (v := ?_) (a' := ?_) #[true, true, true, true, false, false, false, false, false, false, false, false, false, false, false, false, false] rfl rfl (by kernel_rfl) (fun _ _ _ h => h) (Or.inl ⟨by rfl, ?_⟩) ?_ ?_
          rotate_left
          · intro w'
            go_simp
            with_reducible rfl
          rotate_left
          · simp only [Act.put, List.setIfInBounds_toArray, List.set_cons_zero, List.set_cons_succ, i64_w, i32_w]
            rfl
          refine pure_ (i := 4) (N := some 22) (v := ?_) (a' := ?_) #[true, true, true, true, true, false, false, false, false, false, false, false, false, false, false, false, false] rfl rfl (by kernel_rfl) (fun _ _ _ h => h) (Or.inl ⟨by rfl, ?_⟩) ?_ ?_
          rotate_left
          · intro w'
            go_simp
            with_reducible rfl
          rotate_left
          · simp only [Act.put, List.setIfInBounds_toArray, List.set_cons_zero, List.set_cons_succ, i64_w, i32_w]
            rfl
          refine pure_ (i := 5) (N := some 23) (v := ?_) (a' := ?_) #[true, true, true, true, true, true, false, false, false, false, false, false, false, false, false, false, false] rfl rfl (by kernel_rfl) (fun _ _ _ h => h) (Or.inl ⟨by rfl, ?_⟩) ?_ ?_
          rotate_left
          · intro w'
            go_simp
            with_reducible rfl
          rotate_left
          · simp only [Act.put, List.setIfInBounds_toArray, List.set_cons_zero, List.set_cons_succ, i64_w, i32_w]
            rfl
          refine pure_ (i := 6) (N := some 24) (v := ?_) (a' := ?_) #[true, true, true, true, true, true, true, false, false, false, false, false, false, false, false, false, false] rfl rfl (by kernel_rfl) (fun _ _ _ h => h) (Or.inl ⟨by rfl, ?_⟩) ?_ ?_
          rotate_left
          · intro w'
            go_simp
            with_reducible rfl
          rotate_left
          · simp only [Act.put, List.setIfInBounds_toArray, List.set_cons_zero, List.set_cons_succ, i64_w, i32_w]
            rfl
          refine pure_ (i := 7) (N := some 25) (v := ?_) (a' := ?_) #[true, true, true, true, true, true, true, true, false, false, false, false, false, false, false, false, false] rfl rfl (by kernel_rfl) (fun _ _ _ h => h) (Or.inl ⟨by rfl, ?_⟩) ?_ ?_
          rotate_left
          · intro w'
            refine exec_index (.tmp 23) (.tmp 24) ?_ g n c j ?_ ?_ ?_
            · rfl
            · rfl
            · rfl
            · omega
          rotate_left
          · simp only [Act.put, List.setIfInBounds_toArray, List.set_cons_zero, List.set_cons_succ, i64_w, i32_w]
            rfl
          refine pure_ (i := 9) (N := some 27) (v := ?_) (a' := ?_) #[true, true, true, true, true, true, true, true, false, true, false, false, false, false, false, false, false] rfl rfl (by kernel_rfl) (fun _ _ _ h => h) (Or.inl ⟨by rfl, ?_⟩) ?_ ?_
          rotate_left
          · intro w'
            go_simp
            with_reducible rfl
          rotate_left
          · simp only [Act.put, List.setIfInBounds_toArray, List.set_cons_zero, List.set_cons_succ, i64_w, i32_w]
            rfl
          refine pure_ (i := 10) (N := some 28) (v := ?_) (a' := ?_) #[true, true, true, true, true, true, true, true, false, true, true, false, false, false, false, false, false] rfl rfl (by kernel_rfl) (fun _ _ _ h => h) (Or.inl ⟨by rfl, ?_⟩) ?_ ?_
          rotate_left
          · intro w'
            go_simp
            with_reducible rfl
          rotate_left
          · simp only [Act.put, List.setIfInBounds_toArray, List.set_cons_zero, List.set_cons_succ, i64_w, i32_w]
            rfl
          refine pure_ (i := 11) (N := some 29) (v := ?_) (a' := ?_) #[true, true, true, true, true, true, true, true, false, true, true, true, false, false, false, false, false] rfl rfl (by kernel_rfl) (fun _ _ _ h => h) (Or.inl ⟨by rfl, ?_⟩) ?_ ?_
          rotate_left
          · intro w'
            go_simp
            with_reducible rfl
          rotate_left
          · simp only [Act.put, List.setIfInBounds_toArray, List.set_cons_zero, List.set_cons_succ, i64_w, i32_w]
            rfl
          refine pure_ (i := 12) (N := some 30) (v := ?_) (a' := ?_) #[true, true, true, true, true, true, true, true, false, true, true, true, true, false, false, false, false] rfl rfl (by kernel_rfl) (fun _ _ _ h => h) (Or.inl ⟨by rfl, ?_⟩) ?_ ?_
          rotate_left
          · intro w'
            refine exec_index (.tmp 27) (.tmp 29) ?_ g n c q ?_ ?_ ?_
            · rfl
            · rfl
            · rfl
            · omega
          rotate_left
          · simp only [Act.put, List.setIfInBounds_toArray, List.set_cons_zero, List.set_cons_succ, i64_w, i32_w]
            rfl
          refine take_ (i := 8) (N := some 26) (v := .agg #[.string ((fun x => F (rotN t j i (i + 1) x)) j).f0, .int .i64 ((fun x => F (rotN t j i (i + 1) x)) j).f1.f0, .int .i64 ((fun x => F (rotN t j i (i + 1) x)) j).f1.f1, .string ((fun x => F (rotN t j i (i + 1) x)) j).f1.f2]) (a' := ?_) #[true, true, true, true, true, true, true, true, true, true, true, true, true, false, false, false, false] rfl rfl (by kernel_rfl) (fun _ _ _ h => h) (Or.inl ⟨by rfl, ?_⟩) hHeld ?_ ?_
          · rintro w' hv'
            refine exec_elem (.tmp 25) ?_ g n j _ ?_ hv'.a ?_
            · rfl
            · rfl
            · omega
          rotate_left
          · simp only [Act.put, List.setIfInBounds_toArray, List.set_cons_zero, List.set_cons_succ, i64_w, i32_w]
            rfl
          refine take_ (i := 13) (N := some 31) (v := .agg #[.string ((fun x => F (rotN t j i (i + 1) x)) q).f0, .int .i64 ((fun x => F (rotN t j i (i + 1) x)) q).f1.f0, .int .i64 ((fun x => F (rotN t j i (i + 1) x)) q).f1.f1, .string ((fun x => F (rotN t j i (i + 1) x)) q).f1.f2]) (a' := ?_) #[true, true, true, true, true, true, true, true, true, true, true, true, true, true, false, false, false] rfl rfl (by kernel_rfl) (fun _ _ _ h => h) (Or.inl ⟨by rfl, ?_⟩) hHeld ?_ ?_
          · rintro w' hv'
            refine exec_elem (.tmp 30) ?_ g n q _ ?_ hv'.a ?_
            · rfl
            · rfl
            · omega
          rotate_left
          · simp only [Act.put, List.setIfInBounds_toArray, List.set_cons_zero, List.set_cons_succ, i64_w, i32_w]
            rfl
          refine one_ (i := 14) (N := some 32) #[true, true, true, true, true, true, true, true, true, true, true, true, true, true, true, false, false] rfl rfl (by kernel_rfl) (by decide) (fun K hK => ?_)
          refine goesV_ Try.func61 (by kernel_rfl) rfl #[.agg #[.string ((fun x => F (rotN t j i (i + 1) x)) j).f0, .int .i64 ((fun x => F (rotN t j i (i + 1) x)) j).f1.f0, .int .i64 ((fun x => F (rotN t j i (i + 1) x)) j).f1.f1, .string ((fun x => F (rotN t j i (i + 1) x)) j).f1.f2], .agg #[.string ((fun x => F (rotN t j i (i + 1) x)) q).f0, .int .i64 ((fun x => F (rotN t j i (i + 1) x)) q).f1.f0, .int .i64 ((fun x => F (rotN t j i (i + 1) x)) q).f1.f1, .string ((fun x => F (rotN t j i (i + 1) x)) q).f1.f2]] (by rfl) rfl rfl rfl (by (try simp only [List.map_toArray, List.map_cons, List.map_nil]); first | done | rfl) ?_
          refine (kc_w _ _ _ _ hkv.out).mono ?_
          rintro e w' ⟨rfl, hb⟩
          have hH2 := Aside0.mk (hHeld.keep hb)
          clear hb
          refine ⟨_, rfl, ?_⟩
          refine hK.out _ _ (hH2.out) (fun hHeld => ?_)
          clear hK K
          refine norm_ (a' := ?_) ?_ ?_
          rotate_left
          · show Act.put _ (some 32) _ = _
            simp only [Act.put, List.setIfInBounds_toArray, List.set_cons_zero, List.set_cons_succ, i64_w, i32_w]
            rfl
          refine pure_ (i := 15) (N := some 33) (v := ?_) (a' := ?_) #[true, true, true, true, true, true, true, true, true, true, true, true, true, true, true, true, false] rfl rfl (by kernel_rfl) (fun _ _ _ h => h) (Or.inl ⟨by rfl, ?_⟩) ?_ ?_
          rotate_left
          · intro w'
            go_simp
            with_reducible rfl
          rotate_left
          · simp only [Act.put, List.setIfInBounds_toArray, List.set_cons_zero, List.set_cons_succ, i64_w, i32_w]
            rfl
          refine pure_ (i := 16) (N := some 34) (v := ?_) (a' := ?_) #[true, true, true, true, true, true, true, true, true, true, true, true, true, true, true, true, true] rfl rfl (by kernel_rfl) (fun _ _ _ h => h) (Or.inl ⟨by rfl, ?_⟩) ?_ ?_
          rotate_left
          · intro w'
            go_simp
            with_reducible rfl
          rotate_left
          · simp only [Act.put, List.setIfInBounds_toArray, List.set_cons_zero, List.set_cons_succ, i64_w, i32_w]
            rfl
          refine done_ (by kernel_rfl) ?_
          replace hS := Aside0.mk hHeld
          clear hHeld
          by_cases hneg : kv < 0
          · go_wp2
            have hpn : j < n := by omega
            have hqn : q < n := by omega
            have p0 : (0 : Int) ≤ (j : Int) := by omega
            have q0 : (0 : Int) ≤ (q : Int) := by omega
            have p1 : (j : Int) < (n : Int) := by omega
            have q1 : (q : Int) < (n : Int) := by omega
            have hset := Aside0.mk (fun W (h : At W g n (fun x => F (rotN t j i (i + 1) x))) => (h.put j (F (rotN t j i (i + 1) q))).put q (F (rotN t j i (i + 1) j)))
            obtain ⟨⟨a0, a0f⟩, ⟨a1, a1f⟩, ⟨a2, a2f⟩, ⟨a3, a3f⟩⟩ := hS.out.a.get j hpn
            obtain ⟨⟨b0, b0f⟩, ⟨b1, b1f⟩, ⟨b2, b2f⟩, ⟨b3, b3f⟩⟩ := hS.out.a.get q hqn
            have hsw : upd (upd (fun x => F (rotN t j i (i + 1) x)) j (F (rotN t j i (i + 1) q))) q (F (rotN t j i (i + 1) j)) = fun x => F (rotN t q i (i + 1) x) := by subst hqj; exact sw_F F _ _ _ _ (rot_dn t i q (by omega))
            rw [hsw] at hset
            clear hsw
            have hpq : q < j := by omega
            replace hqj := Aside0.mk hqj
            try dsimp only at a0 a1 a2 a3 a0f a1f a2f a3f b0 b1 b2 b3 b0f b1f b2f b3f
            generalize F (rotN t j i (i + 1) q) = x at a0 a1 a2 a3 a0f a1f a2f a3f b0 b1 b2 b3 b0f b1f b2f b3f hset
            generalize F (rotN t j i (i + 1) j) = y at a0 a1 a2 a3 a0f a1f a2f a3f b0 b1 b2 b3 b0f b1f b2f b3f hset
            go_wp2
            go_region
            go_wp2
            go_roundg k2
            case measure => omega
            case rel => exact ⟨q, rfl, haq, by omega, by omega, ⟨fun _ => by rw [hkv2.out]; exact hneg⟩, ⟨⟨(hset.out _ hS.out.a).drew, (only_put (only_put hS.out.o g rfl j x) g rfl q y).drew⟩⟩⟩
          · go_wp2
            have h5 := Aside0.mk (ins_step (fun p q h1 h2 h3 => hx.out p q h1 h2 (by omega)) (Nat.le_of_lt hai) hB.out.1 hB.out.2 haj hji (fun _ => by rw [show j - 1 = q by omega, hkv2.out]; omega) hB2.out)
            clear hk2
            go_roundg k1
            case measure => omega
            case rel => exact ⟨i + 1, _, rfl, by omega, by omega, by omega, h5, hS⟩
        · have hjI : ¬ ((a : Int) < (j : Int)) := by omega
          clear hk2
          go_wp2
          go_quiet (fail)
          go_wp2
          have h5 := Aside0.mk (ins_step (fun p q h1 h2 h3 => hx.out p q h1 h2 (by omega)) (Nat.le_of_lt hai) hB.out.1 hB.out.2 haj hji (fun h => absurd h (by omega)) hB2.out)
          go_roundg k1
          case measure => omega
          case rel => exact ⟨i + 1, _, rfl, by omega, by omega, by omega, h5, ⟨⟨hS.out.a, hS.out.o.drewN _⟩⟩⟩
    · obtain rfl : i = b := by omega
      clear hk
      go_wp2
      go_end0
      exact ⟨rfl, t, hS.out.a, hB.out.1, hB.out.2, hS.out.o⟩
end Go.Proofs.Ytllepjhimkogjaa.Rw
namespace Go.Proofs.Ytllepjhimkogjaa.Rw
open Go.RowKit Go.Proofs.Ytllepjhimkogjaa.Ob Go.Proofs.YtllepjhimkogjaaW.PrintWords Go.Proofs.YtllepjhimkogjaaW.PrintLast Go.Proofs.Ytllepjhimkogjaa.Two
set_option linter.unusedSimpArgs false
set_option linter.unusedVariables false
theorem ins_c (w : World) (g n c : Nat) (F : Nat → E) (s : Nat → Nat) (a b : Nat) (x y : Int) (ex : x = (a : Int)) (ey : y = (b : Int)) (hn : n ≤ 1000) (hb : b ≤ n) (hab : a ≤ b) (hx : ∀ p, a ≤ p → s p = p) (hA : At w g n (fun x => F (s x))) :
    Calls Try.prog 115 #[.slice (some ⟨g, 0, none⟩) n c, .int .i64 x, .int .i64 y, .func (.func 61) #[] #[]] w (Merged F s a b g n w) := by
  subst ex ey
  rcases Nat.lt_or_eq_of_le hab with e | rfl
  · exact ins_walk w g n c F s a b hn hb e (fun p q h1 h2 h3 => by rw [hx p h1, hx q (by omega)]; exact h2) hA
  · exact ins_same w g n c F s a hn hb hA
theorem sym_c (w : World) (g n c : Nat) (F : Nat → E) (s : Nat → Nat) (a m b : Nat) (x y z : Int) (ex : x = (a : Int)) (ey : y = (m : Int)) (ez : z = (b : Int)) (hn : n ≤ 1000) (hb : b ≤ n) (ham : a < m) (hmb : m < b) (hP : Pre F s a m b) (hA : At w g n (fun x => F (s x))) :
    Calls Try.prog 116 #[.slice (some ⟨g, 0, none⟩) n c, .int .i64 x, .int .i64 y, .int .i64 z, .func (.func 61) #[] #[]] w (Merged F s a b g n w) := by
  subst ex ey ez
  exact sym_all g n c F hn b w s a m b (by omega) hb ham hmb hP hA
theorem two_parts {F : Nat → E} {t u : Nat → Nat} {n : Nat} (hn : 20 < n) (h1 : Same (fun x => x) t 0 20) (s1 : Srt F t 0 20) (h2 : Same t u 20 n) (s2 : Srt F u 20 n) : Pre F u 0 20 n := by
  have e1 : ∀ x, x < 20 → u x = t x := fun x hx => h2.2.2 x (by omega)
  have e2 : ∀ x, 20 ≤ x → t x = x := fun x hx => h1.2.2 x (by omega)
  refine ⟨by omega, by omega, fun i j hi hij hj => ?_, s2, fun i j hi him hj hjb => ?_⟩
  · rw [e1 i (by omega), e1 j hj]; exact s1 i j hi hij hj
  · rw [e1 i him]
    obtain ⟨y, hy1, hy2, ey⟩ := h1.1 i hi him
    obtain ⟨z, hz1, hz2, ez⟩ := h2.1 j hj hjb
    rw [ey, ez, e2 z hz1]; show y < z; omega
theorem two_same {t u v : Nat → Nat} {n : Nat} (hn : 20 < n) (h1 : Same (fun x => x) t 0 20) (h2 : Same t u 20 n) (h3 : Same u v 0 n) : Same (fun x => x) v 0 n :=
  ((h1.widen (Nat.le_refl _) (by omega)).trans (h2.widen (by omega) (Nat.le_refl _))).trans h3
set_option maxHeartbeats 8000000 in
set_option maxRecDepth 1000000 in
theorem stable_lt (w : World) (g n c : Nat) (F : Nat → E) (hn : n < 20) (hA : At w g n F) :
    Calls Try.prog 91 #[.slice (some ⟨g, 0, none⟩) n c, .int .i64 (n : Int), .func (.func 61) #[] #[]] w (Merged F (fun x => x) 0 n g n w) := by
  have hA := Aside0.mk hA
  have hL : ¬ ((20 : Int) ≤ (n : Int)) := by omega
  have hM : ¬ ((20 : Int) < (n : Int)) := by omega
  go_enter Try.func91, Try.ntmps91
  go_wp2
  refine wp_loop_rounds 1 ?_
  rw [rounds_succ]
  go_wp2_with (go_at_call 115; refine (ins_c _ g n c F (fun x => x) 0 n 0 _ rfl rfl (by omega) (by omega) (by omega) (fun _ _ => rfl) hA.out).mono ?_; rintro e w1 ⟨rfl, t, hA1, ht1, ht2, hO1⟩; replace hA1 := Aside0.mk hA1; replace ht1 := Aside0.mk ht1; replace ht2 := Aside0.mk ht2; replace hO1 := Aside0.mk hO1)
  refine wp_loop_rounds 1 ?_
  rw [rounds_succ]
  go_wp2
  go_end0
  exact ⟨rfl, t, hA1.out, ht1.out, ht2.out, hO1.out⟩
set_option maxHeartbeats 8000000 in
set_option maxRecDepth 1000000 in
theorem stable_20 (w : World) (g n c : Nat) (F : Nat → E) (hn : n = 20) (hA : At w g n F) :
    Calls Try.prog 91 #[.slice (some ⟨g, 0, none⟩) n c, .int .i64 (n : Int), .func (.func 61) #[] #[]] w (Merged F (fun x => x) 0 n g n w) := by
  have hA := Aside0.mk hA
  have hL : ((20 : Int) ≤ (n : Int)) := by omega
  have hL2 : ¬ ((40 : Int) ≤ (n : Int)) := by omega
  have hM : ¬ ((20 : Int) < (n : Int)) := by omega
  replace hn := Aside0.mk hn
  go_enter Try.func91, Try.ntmps91
  go_wp2
  refine wp_loop_rounds 2 ?_
  rw [rounds_succ]
  have hf1 : Aside0 True := ⟨trivial⟩
  go_wp2_with (go_at_call 115; clear hf1; refine (ins_c _ g n c F (fun x => x) 0 20 0 20 rfl rfl (by have := hn.out; omega) (by have := hn.out; omega) (by omega) (fun _ _ => rfl) hA.out).mono ?_; rintro e w1 ⟨rfl, t, hA1, ht1, ht2, hO1⟩; replace hA1 := Aside0.mk hA1; replace ht1 := Aside0.mk ht1; replace ht2 := Aside0.mk ht2; replace hO1 := Aside0.mk hO1)
  rw [rounds_succ]
  go_wp2_with (go_at_call 115; refine (ins_c _ g n c F t 20 n 20 _ rfl rfl (by have := hn.out; omega) (by omega) (by have := hn.out; omega) (fun p hp => ht1.out.2.2 p (by omega)) hA1.out).mono ?_; rintro e w2 ⟨rfl, u, hA2, hu1, hu2, hO2⟩; replace hA2 := Aside0.mk hA2; replace hu1 := Aside0.mk hu1; replace hu2 := Aside0.mk hu2; replace hO2 := Aside0.mk (hO1.out.trans hO2))
  refine wp_loop_rounds 1 ?_
  rw [rounds_succ]
  go_wp2
  go_end0
  have e := hn.out
  subst e
  refine ⟨rfl, u, hA2.out, ht1.out.trans (hu1.out.widen (Nat.zero_le _) (Nat.le_refl _)), fun i j h1 h2 h3 => ?_, hO2.out⟩
  rw [hu1.out.2.2 i (by omega), hu1.out.2.2 j (by omega)]
  exact ht2.out i j h1 h2 h3
set_option maxHeartbeats 8000000 in
set_option maxRecDepth 1000000 in
theorem stable_mid (w : World) (g n c : Nat) (F : Nat → E) (hn : 20 < n) (hn2 : n < 40) (hA : At w g n F) :
    Calls Try.prog 91 #[.slice (some ⟨g, 0, none⟩) n c, .int .i64 (n : Int), .func (.func 61) #[] #[]] w (Merged F (fun x => x) 0 n g n w) := by
  have hA := Aside0.mk hA
  have hL : ((20 : Int) ≤ (n : Int)) := by omega
  have hL2 : ¬ ((40 : Int) ≤ (n : Int)) := by omega
  have hM : ((20 : Int) < (n : Int)) := by omega
  have hM2 : ¬ ((40 : Int) < (n : Int)) := by omega
  replace hn := Aside0.mk hn
  replace hn2 := Aside0.mk hn2
  go_enter Try.func91, Try.ntmps91
  go_wp2
  refine wp_loop_rounds 2 ?_
  rw [rounds_succ]
  have hf1 : Aside0 True := ⟨trivial⟩
  go_wp2_with (go_at_call 115; clear hf1; refine (ins_c _ g n c F (fun x => x) 0 20 0 20 rfl rfl (by have := hn2.out; omega) (by have := hn.out; omega) (by omega) (fun _ _ => rfl) hA.out).mono ?_; rintro e w1 ⟨rfl, t, hA1, ht1, ht2, hO1⟩; replace hA1 := Aside0.mk hA1; replace ht1 := Aside0.mk ht1; replace ht2 := Aside0.mk ht2; replace hO1 := Aside0.mk hO1)
  rw [rounds_succ]
  go_wp2_with (go_at_call 115; refine (ins_c _ g n c F t 20 n 20 _ rfl rfl (by have := hn2.out; omega) (by omega) (by have := hn.out; omega) (fun p hp => ht1.out.2.2 p (by omega)) hA1.out).mono ?_; rintro e w2 ⟨rfl, u, hA2, hu1, hu2, hO2⟩; replace hA2 := Aside0.mk hA2; replace hu1 := Aside0.mk hu1; replace hu2 := Aside0.mk hu2; replace hO2 := Aside0.mk (hO1.out.trans hO2))
  refine wp_loop_rounds 2 ?_
  rw [rounds_succ]
  go_wp2
  refine wp_loop_rounds 1 ?_
  rw [rounds_succ]
  go_wp2_with (go_at_call 116; refine (sym_c _ g n c F u 0 20 n 0 20 _ rfl rfl rfl (by have := hn2.out; omega) (by omega) (by omega) (by have := hn.out; omega) (two_parts hn.out ht1.out ht2.out hu1.out hu2.out) hA2.out).mono ?_; rintro e w3 ⟨rfl, v, hA3, hv1, hv2, hO3⟩; replace hA3 := Aside0.mk hA3; replace hv1 := Aside0.mk hv1; replace hv2 := Aside0.mk hv2; replace hO3 := Aside0.mk (hO2.out.trans hO3))
  rw [rounds_succ]
  go_wp2
  go_end0
  exact ⟨rfl, v, hA3.out, two_same hn.out ht1.out hu1.out hv1.out, hv2.out, hO3.out⟩
set_option maxHeartbeats 8000000 in
set_option maxRecDepth 1000000 in
theorem stable_40 (w : World) (g n c : Nat) (F : Nat → E) (hn : n = 40) (hA : At w g n F) :
    Calls Try.prog 91 #[.slice (some ⟨g, 0, none⟩) n c, .int .i64 (n : Int), .func (.func 61) #[] #[]] w (Merged F (fun x => x) 0 n g n w) := by
  have hA := Aside0.mk hA
  have hL : ((20 : Int) ≤ (n : Int)) := by omega
  have hL2 : ((40 : Int) ≤ (n : Int)) := by omega
  have hL3 : ¬ ((60 : Int) ≤ (n : Int)) := by omega
  have hL4 : ¬ ((80 : Int) ≤ (n : Int)) := by omega
  have hM : ((20 : Int) < (n : Int)) := by omega
  have hM2 : ¬ ((40 : Int) < (n : Int)) := by omega
  have hM3 : ¬ ((60 : Int) < (n : Int)) := by omega
  replace hn := Aside0.mk hn
  go_enter Try.func91, Try.ntmps91
  go_wp2
  refine wp_loop_rounds 3 ?_
  rw [rounds_succ]
  have hf1 : Aside0 True := ⟨trivial⟩
  go_wp2_with (go_at_call 115; clear hf1; refine (ins_c _ g n c F (fun x => x) 0 20 0 20 rfl rfl (by have := hn.out; omega) (by have := hn.out; omega) (by omega) (fun _ _ => rfl) hA.out).mono ?_; rintro e w1 ⟨rfl, t, hA1, ht1, ht2, hO1⟩; replace hA1 := Aside0.mk hA1; replace ht1 := Aside0.mk ht1; replace ht2 := Aside0.mk ht2; replace hO1 := Aside0.mk hO1)
  rw [rounds_succ]
  have hf2 : Aside0 True := ⟨trivial⟩
  go_wp2_with (go_at_call 115; clear hf2; refine (ins_c _ g n c F t 20 40 20 40 rfl rfl (by have := hn.out; omega) (by have := hn.out; omega) (by omega) (fun p hp => ht1.out.2.2 p (by omega)) hA1.out).mono ?_; rintro e w2 ⟨rfl, u, hA2, hu1, hu2, hO2⟩; replace hA2 := Aside0.mk hA2; replace hu1 := Aside0.mk hu1; replace hu2 := Aside0.mk hu2; replace hO2 := Aside0.mk (hO1.out.trans hO2))
  rw [rounds_succ]
  go_wp2_with (go_at_call 115; refine (ins_c _ g n c F u 40 n 40 _ rfl rfl (by have := hn.out; omega) (by omega) (by have := hn.out; omega) (fun p hp => by rw [hu1.out.2.2 p (by omega)]; exact ht1.out.2.2 p (by omega)) hA2.out).mono ?_; rintro e w2b ⟨rfl, u2, hA2b, hu1b, hu2b, hO2b⟩; have hu : u2 = u := (by funext x; have h40 := hn.out; exact hu1b.2.2 x (by omega)); subst hu; clear hu1b hu2b; replace hA2b := Aside0.mk hA2b; replace hO2b := Aside0.mk (hO2.out.trans hO2b))
  refine wp_loop_rounds 2 ?_
  rw [rounds_succ]
  go_wp2
  refine wp_loop_rounds 2 ?_
  rw [rounds_succ]
  go_wp2_with (go_at_call 116; refine (sym_c _ g n c F _ 0 20 40 0 20 40 rfl rfl rfl (by have := hn.out; omega) (by have := hn.out; omega) (by omega) (by omega) (two_parts (by omega) ht1.out ht2.out hu1.out hu2.out) hA2b.out).mono ?_; rintro e w3 ⟨rfl, v, hA3, hv1, hv2, hO3⟩; replace hA3 := Aside0.mk hA3; replace hv1 := Aside0.mk hv1; replace hv2 := Aside0.mk hv2; replace hO3 := Aside0.mk (hO2b.out.trans hO3))
  rw [rounds_succ]
  go_wp2
  rw [rounds_succ]
  go_wp2
  go_end0
  have e := hn.out
  subst e
  exact ⟨rfl, v, hA3.out, two_same (by omega) ht1.out hu1.out hv1.out, hv2.out, hO3.out⟩
theorem stable_walk (w : World) (g n c : Nat) (F : Nat → E) (hn : n ≤ 40) (hA : At w g n F) :
    Calls Try.prog 91 #[.slice (some ⟨g, 0, none⟩) n c, .int .i64 (n : Int), .func (.func 61) #[] #[]] w (Merged F (fun x => x) 0 n g n w) := by
  by_cases h1 : n < 20
  · exact stable_lt w g n c F h1 hA
  · by_cases h2 : n = 20
    · exact stable_20 w g n c F h2 hA
    · by_cases h3 : n = 40
      · exact stable_40 w g n c F h3 hA
      · exact stable_mid w g n c F (by omega) (by omega) hA
set_option maxHeartbeats 4000000 in
set_option maxRecDepth 1000000 in
theorem sort_walk (w : World) (g n c : Nat) (F : Nat → E) (hn : n ≤ 40) (hA : At w g n F) :
    Calls Try.prog 60 #[.slice (some ⟨g, 0, none⟩) n c, .func (.func 61) #[] #[]] w (Merged F (fun x => x) 0 n g n w) := by
  replace hA := Aside0.mk hA
  replace hn := Aside0.mk hn
  go_enter Try.func60, Try.ntmps60
  go_wp2_with (go_at_call 91; refine (stable_walk _ g n c F hn.out hA.out).mono ?_; rintro e w1 ⟨rfl, t, hA1, ht1, ht2, hO1⟩)
  go_end0
  exact ⟨rfl, t, hA1, ht1, ht2, hO1⟩
end Go.Proofs.Ytllepjhimkogjaa.Rw
namespace Go.Proofs.Ytllepjhimkogjaa.Rw
open Go.RowKit Go.Proofs.Ytllepjhimkogjaa.Ob Go.Proofs.YtllepjhimkogjaaW.PrintWords Go.Proofs.YtllepjhimkogjaaW.PrintLast Go.Proofs.Ytllepjhimkogjaa.Two
set_option linter.unusedSimpArgs false
set_option linter.unusedVariables false
abbrev K51 := Go.Proofs.Ytllepjhimkogjaa.Ty.k51
def eZ : E := Go.Proofs.Ytllepjhimkogjaa.Ty.z51
def fn (l : List E) : Nat → E := fun i => l.getD i eZ
theorem range_fn (l : List E) : (List.range l.length).map (fn l) = l := by
  apply List.ext_getElem?
  intro i
  by_cases hi : i < l.length
  · rw [List.getElem?_map, List.getElem?_range hi, List.getElem?_eq_getElem hi]
    simp [fn, hi]
  · rw [List.getElem?_eq_none (by simpa using hi), List.getElem?_eq_none (by simpa using hi)]
theorem cells_flat {l : List E} {inner : List Value} (h1 : inner.length = l.length * 4) (h2 : ∀ j p, l[j]? = some p → (inner.drop (j * 4)).take 4 = cells4 p) : inner = (List.range (4 * l.length)).map (flat (fn l)) := by
  apply List.ext_getElem?
  intro q
  by_cases hq : q < inner.length
  · have hj : q / 4 < l.length := by omega
    have h3 := h2 (q / 4) _ (List.getElem?_eq_getElem hj)
    rw [List.getElem?_map, List.getElem?_range (by omega), Option.map_some]
    have h4 : inner[q]? = (cells4 (l[q / 4]))[q % 4]? := by
      rw [← h3, List.getElem?_take_of_lt (by omega), List.getElem?_drop]
      congr 1; omega
    rw [h4]
    unfold flat
    rw [show fn l (q / 4) = l[q / 4] by unfold fn; rw [List.getD_eq_getElem?_getD, List.getElem?_eq_getElem hj]; rfl, List.getD_eq_getElem?_getD]
    have h5 : q % 4 < (cells4 (l[q / 4])).length := by have : (cells4 (l[q / 4])).length = 4 := rfl; omega
    rw [List.getElem?_eq_getElem h5]; rfl
  · rw [List.getElem?_eq_none (by simpa using hq), List.getElem?_eq_none (by simp; omega)]
theorem own_row {W : World} {b : Nat} {e size n : Nat} {v : Value} {inner : List Value} (h : W.ownsRow b e size v n inner) (hn : 0 < n) : ∃ g c, v = .slice (some ⟨g, 0, none⟩) n c ∧ n ≤ c ∧ b ≤ g ∧ g < W.heap.size ∧ Row W g inner := by
  obtain ⟨h1, h2⟩ := h
  rcases h2 with ⟨_, h2⟩ | ⟨g, cap, cur, rfl, hg, hh, h3, h4, h5, h6⟩
  · omega
  · refine ⟨g, cap, rfl, h3, hg, (Array.getElem?_eq_some_iff.1 hh).1, fun i u hu => ?_⟩
    have hi : cur[i]? = some u := by
      rw [← h6] at hu
      rw [List.getElem?_take] at hu
      split at hu
      · rw [← Array.getElem?_toList]; exact hu
      · cases hu
    unfold World.cell? World.frozen?
    simp [hh, hi]
def Own (W : World) (b : Nat) (V : Option Addr) (c : Nat) (l : List E) : Prop := l.length ≤ c ∧ (0 < l.length → ∃ g, V = some ⟨g, 0, none⟩ ∧ b ≤ g ∧ g < W.heap.size ∧ At W g l.length (fn l))
theorem Own.of_R {α : Type} {d : Kd α} {W : World} {b e : Nat} {ok : Nat → Prop} {v : Value} {xs : List α} (f : α → E) (hs : d.sz = 4) (hM : ∀ w b ok x cs, d.M w b ok x cs → cs = cells4 (f x)) (h : d.R e W b ok v xs) : ∃ V c, v = .slice V xs.length c ∧ Own W b V c (xs.map f) := by
  obtain ⟨h0, inner, ho, hr⟩ := h
  have hl : (xs.map f).length = xs.length := List.length_map _
  by_cases hn : 0 < xs.length
  · obtain ⟨g, c, rfl, h1, h2, h3, h4⟩ := own_row ho hn
    refine ⟨_, c, rfl, by rw [hl]; exact h1, fun _ => ⟨g, rfl, h2, h3, ?_⟩⟩
    have e := cells_flat (l := xs.map f) (inner := inner) (by rw [hl]; have := hr.1; rw [hs] at this; exact this) (fun j p hp => by
      rw [List.getElem?_map] at hp
      cases hx : xs[j]? with
      | none => rw [hx] at hp; cases hp
      | some x =>
        rw [hx] at hp
        obtain rfl := Option.some.inj hp
        have := hM _ _ _ _ _ (hr.2 j x hx)
        rw [hs] at this
        exact this)
    rw [e] at h4
    exact h4
  · obtain ⟨h1, h2⟩ := ho
    rcases h2 with ⟨rfl, h2⟩ | ⟨g, cap, cur, rfl, _, _, h3, _⟩
    · exact ⟨none, 0, by rw [h2], by rw [hl, h2]; exact Nat.le_refl _, fun h => absurd h (by rw [hl]; exact hn)⟩
    · exact ⟨_, cap, rfl, by rw [hl]; exact h3, fun h => absurd h (by rw [hl]; exact hn)⟩
theorem Own.reads {W : World} {b : Nat} {V : Option Addr} {c : Nat} {l : List E} (h : Own W b V c l) (hl : l.length ≤ 1000) : Kd.C K51 W V l.length l := by
  refine ⟨rfl, by omega, fun hn => ?_⟩
  obtain ⟨g, rfl, _, _, hA⟩ := h.2 hn
  refine ⟨_, rfl, fun j x hx => ?_⟩
  have hj : j < l.length := (List.getElem?_eq_some_iff.1 hx).1
  have hx2 : fn l j = x := by unfold fn; rw [List.getD_eq_getElem?_getD, hx]; rfl
  have h4 := hA.cells j hj
  rw [hx2] at h4
  refine ⟨cells4 x, rfl, Ty.k51_mk W x, fun i u hu => ?_⟩
  have := h4 i u hu
  rw [show (⟨g, 0, none⟩ : Addr).add (j * K51.sz + i) = ⟨g, j * 4 + i, none⟩ from by
    rw [show K51.sz = 4 from rfl]
    unfold Addr.add
    split
    · rename_i h; rw [h]
    · simp]
  exact this
theorem Own.only {W W' : World} {b : Nat} {S : Nat → Prop} {V : Option Addr} {c : Nat} {l : List E} (h : Own W b V c l) (k : Only S W W') (hS : ∀ g, b ≤ g → ¬ S g) : Own W' b V c l :=
  ⟨h.1, fun hn => by obtain ⟨g, e, h1, h2, h3⟩ := h.2 hn; exact ⟨g, e, h1, Nat.lt_of_lt_of_le h2 k.size, Row.only h3 k (hS g h1)⟩⟩
theorem Own.far {W : World} {b : Nat} {V : Option Addr} {c : Nat} {l : List E} (h : Own W b V c l) (p : Addr) (v : Value) (hp : p.block < b) : Own (W.setCell p v) b V c l :=
  h.only ((Only.refl (fun k => k < b) W).setCell p v hp) (fun g hg e => by have : g < b := e; omega)
theorem Own.lower {W : World} {b b' : Nat} {V : Option Addr} {c : Nat} {l : List E} (h : Own W b V c l) (hb : b' ≤ b) : Own W b' V c l :=
  ⟨h.1, fun hn => by obtain ⟨g, e, h1, h2, h3⟩ := h.2 hn; exact ⟨g, e, by omega, h2, h3⟩⟩
theorem sort_own (w : World) (b : Nat) (V : Option Addr) (c : Nat) (l : List E) (hn : l.length ≤ 40) (h : Own w b V c l) :
    Calls Try.prog 60 #[.slice V l.length c, .func (.func 61) #[] #[]] w fun e w' => e = .returned (.tuple #[]) ∧ Own w' b V c (srtL l) ∧ Only (fun q => b ≤ q) w w' := by
  by_cases h0 : 0 < l.length
  · obtain ⟨g, rfl, h1, h2, h3⟩ := h.2 h0
    refine (sort_walk w g l.length c (fn l) hn h3).mono ?_
    rintro e w' ⟨rfl, t, hA, ht1, ht2, hO⟩
    have e := srt_is ht1 ht2
    rw [range_fn] at e
    have hl := srtL_length l
    refine ⟨rfl, ⟨by rw [hl]; exact h.1, fun _ => ⟨g, rfl, h1, Nat.lt_of_lt_of_le h2 hO.size, ?_⟩⟩, hO.mono (fun q e => by have : q = g := e; omega)⟩
    rw [hl]
    have e2 : FRow w' g (4 * l.length) (flat (fn (srtL l))) ↔ FRow w' g (4 * l.length) (flat (fun x => fn l (t x))) := by
      unfold FRow
      have : (List.range (4 * l.length)).map (flat (fn (srtL l))) = (List.range (4 * l.length)).map (flat (fun x => fn l (t x))) := by
        apply List.map_congr_left
        intro o ho
        have ho := List.mem_range.1 ho
        unfold flat
        rw [show fn (srtL l) (o / 4) = fn l (t (o / 4)) from ?_]
        unfold fn
        rw [← e, List.getD_eq_getElem?_getD, List.getElem?_map, List.getElem?_range (by omega)]
        rfl
      rw [this]
    exact e2.2 hA
  · have e : l = [] := List.length_eq_zero_iff.1 (by omega)
    subst e
    refine (Al.sort_none w V c).mono ?_
    rintro e w' ⟨rfl, rfl⟩
    exact ⟨rfl, h, Only.refl _ _⟩
end Go.Proofs.Ytllepjhimkogjaa.Rw
