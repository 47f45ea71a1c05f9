/- What a histogram (hist.Hist) is in memory, and what New and Put do. No conditions but bounds. -/
import Derived.Test.YtdcbhakclhbdpaaHp
namespace Go.Proofs.Ytdcbhakclhbdpaa.Hi
open Go.RowKit Go.Shelf Go.Proofs.YtdcbhakclhbdpaaW.PrintWords Go.Proofs.YtdcbhakclhbdpaaW.PrintLast
open Go.Proofs.Ytdcbhakclhbdpaa.Ob Go.Proofs.Ytdcbhakclhbdpaa.XH
set_option linter.unusedSimpArgs false
set_option linter.unusedVariables false

theorem R_sl {α : Type} {d : Kd α} {e base : Nat} {ok : Nat → Prop} {w : World} {v : Value} {xs : List α} (h : d.R e w base ok v xs) : ∃ A m c, v = .slice A m c ∧ m = xs.length := by
  obtain ⟨A, c, h⟩ := Kd.R_slice h
  exact ⟨A, _, c, h, rfl⟩
theorem R_only {α : Type} {d : Kd α} {e base : Nat} {ok S : Nat → Prop} {w w1 : World} {v : Value} {xs : List α} (h : d.R e w base ok v xs) (k : Only S w w1) (hs : ∀ k, ok k → base ≤ k → k < w.heap.size → ¬ S k) : d.R e w1 base ok v xs :=
  Kd.R_mono (Kd.R_step (Kd.R_bound h) (fun i hi hlt => k.block i hlt (hs i hi.1 hi.2.1 hlt))) (fun _ hj => hj.1)
/-- What was done to new blocks alone. -/
theorem fresh {F S : Nat → Prop} {w a b : World} (h : Only F w a) (k : Only S a b) (hS : ∀ i, S i → w.heap.size ≤ i) : Only F w b :=
  ⟨k.os.trans h.os, k.tape.trans h.tape, k.output.trans h.output, Nat.le_trans h.size k.size, fun i hi hf => (k.block i (Nat.lt_of_lt_of_le hi h.size) fun e => by have := hS i e; omega).trans (h.block i hi hf)⟩
/-- The cells of counts, as the program's values. -/
def zc (Z : List S26) : List Value := Z.flatMap fun x => [.int .u64 x.f0, .bool x.f1]
theorem zc_length (Z : List S26) : (zc Z).length = Z.length * 2 := by
  induction Z with
  | nil => rfl
  | cons x l ih => unfold zc at ih ⊢; rw [List.flatMap_cons, List.length_append, ih, List.length_cons]; simp; omega
theorem zc_at (Z : List S26) (i : Nat) (h : i < Z.length) : (zc Z)[i * 2]? = some (.int .u64 (Z[i]).f0) ∧ (zc Z)[i * 2 + 1]? = some (.bool (Z[i]).f1) := by
  induction Z generalizing i with
  | nil => simp at h
  | cons x l ih =>
    unfold zc at ih ⊢
    rw [List.flatMap_cons]
    cases i with
    | zero => exact ⟨rfl, rfl⟩
    | succ i =>
      have := ih i (by simpa using h)
      rw [show (i + 1) * 2 = i * 2 + 2 by omega]
      exact this
def toS (c : Nat × Bool) : S26 := ⟨(c.1 : Int), c.2⟩
theorem zc_bc (l : List (Nat × Bool)) : zc (l.map toS) = bc l := by
  unfold zc bc
  rw [List.flatMap_map]; rfl
/-- An own row, as cells. -/
theorem Row_of_R {W : World} {base : Nat} {ok : Nat → Prop} {v : Value} {Z : List S26} (h : Kd.R k26 26 W base ok v Z) : ∃ A b c, v = .slice A Z.length c ∧ Z.length ≤ c ∧ (0 < Z.length → A = some ⟨b, 0, none⟩ ∧ base ≤ b ∧ b < W.heap.size ∧ ok b) ∧ Row W b (zc Z) := by
  obtain ⟨h0, inner, ho, hr⟩ := h
  have hin : inner = zc Z := by
    have hl : inner.length = Z.length * 2 := hr.1
    apply List.ext_getElem?
    intro q
    by_cases hq : q < inner.length
    · have hj : q / 2 < Z.length := by omega
      have hm := k26_openM (hr.2 (q / 2) _ (List.getElem?_eq_getElem hj))
      obtain ⟨e1, e2⟩ := zc_at Z (q / 2) hj
      have hk : k26.sz = 2 := rfl
      rw [hk] at hm
      have hx : ∀ r, r < 2 → inner[q / 2 * 2 + r]? = [Value.int .u64 (Z[q / 2]).f0, .bool (Z[q / 2]).f1][r]? := fun r hr => by
        rw [← hm, List.getElem?_take_of_lt hr, List.getElem?_drop]
      rcases Nat.mod_two_eq_zero_or_one q with h2 | h2
      · have := hx 0 (by omega)
        rw [show q / 2 * 2 + 0 = q by omega] at this
        rw [show q / 2 * 2 = q by omega] at e1
        rw [this, e1]; rfl
      · have := hx 1 (by omega)
        rw [show q / 2 * 2 + 1 = q by omega] at this e2
        rw [this, e2]; rfl
    · rw [List.getElem?_eq_none (by omega), List.getElem?_eq_none (by rw [zc_length]; omega)]
  subst hin
  obtain ⟨hl, h1 | ⟨g, cap, cur, rfl, hg, hh, hc1, hc2, hc3, hc4⟩⟩ := ho
  · have : Z = [] := List.eq_nil_of_length_eq_zero h1.2
    subst this
    exact ⟨none, 0, 0, h1.1, Nat.le_refl _, fun h => absurd h (by simp), fun i v hv => by simp [zc] at hv⟩
  · refine ⟨_, g, cap, rfl, hc1, fun _ => ⟨rfl, hg, (Array.getElem?_eq_some_iff.1 hh).1, h0 g rfl⟩, fun i v hv => ?_⟩
    have hk : k26.sz = 2 := rfl
    rw [← hc4, hk] at hv
    have hi : i < Z.length * 2 := by
      have := (List.getElem?_eq_some_iff.1 hv).1
      rw [List.length_take] at this
      exact Nat.lt_of_lt_of_le this (Nat.min_le_left _ _)
    rw [List.getElem?_take_of_lt hi] at hv
    unfold World.cell? World.frozen?
    simp only [hh]
    exact ⟨by simpa using hv, by simp⟩
theorem row_of_blk {W : World} {g : Nat} {cs : Array Value} {t : TypeId} (h : W.heap[g]? = some (.cells cs t (0, 0))) : Row W g cs.toList := by
  intro i v hv
  unfold World.cell? World.frozen?
  simp only [h]
  exact ⟨by simpa using hv, by simp⟩
theorem clone_walk (W : World) (A : Option Addr) (n c : Nat) (bs : List Nat) (hC : Kd.C (Kd.int .u64) W A n (ofN bs)) (hn : n = bs.length) (hc : n ≤ c) (hl : n ≤ 1000) :
    Calls Try.prog 44 #[.slice A n c] W fun r w' => ∃ A' c', r = .returned (.slice A' n c') ∧ Kd.R (Kd.int .u64) 24 w' W.heap.size (fun _ => True) (.slice A' n c') (ofN bs) ∧ Only (fun _ => False) W w' := by
  have e : n = (ofN bs).length := by rw [ofN_length, hn]
  subst e
  refine (slices_Clone_uint64_uint64.calls A c (ofN bs) (ofN bs) W hC hc (by unfold slices_Clone_uint64_uint64.f; simp; omega)).mono ?_
  rintro r w' ⟨v, rfl, hR, hB⟩
  obtain ⟨A', m, c', rfl, hm⟩ := R_sl hR
  subst hm
  exact ⟨A', c', rfl, hR, Only.of_below hB (fun k hk _ => hk)⟩
/-- A histogram in memory: its bounds, its buckets, count and sum. Its blocks are of lo to hi. -/
structure Hc (W : World) (lo hi N b k : Nat) (v0 : Value) (bs : List Nat) (cs : List (Nat × Bool)) (c s : Nat × Bool) : Prop where
  row : Row W N [v0, .slice (some ⟨b, 0, none⟩) (bs.length + 1) k, .int .u64 (c.1 : Int), .bool c.2, .int .u64 (s.1 : Int), .bool s.2]
  bow : Row W b (bc cs)
  bnd : Kd.R (Kd.int .u64) 24 W lo (fun j => j ≠ N ∧ j ≠ b ∧ j < hi) v0 (ofN bs)
  len : cs.length = bs.length + 1
  wn : lo ≤ N ∧ N < hi
  wb : lo ≤ b ∧ b < hi
  ne : b ≠ N
  cap : bs.length + 1 ≤ k
  top : hi ≤ W.heap.size
section
variable {W W' : World} {lo hi N b k : Nat} {v0 : Value} {bs : List Nat} {cs : List (Nat × Bool)} {c s : Nat × Bool}
theorem Hc.only (h : Hc W lo hi N b k v0 bs cs c s) {S : Nat → Prop} (o : Only S W W') (hS : ∀ j, lo ≤ j → j < hi → ¬ S j) : Hc W' lo hi N b k v0 bs cs c s :=
  ⟨h.row.only o (hS N h.wn.1 h.wn.2), h.bow.only o (hS b h.wb.1 h.wb.2), R_only h.bnd o (fun j hj hlo _ => hS j hlo hj.2.2), h.len, h.wn, h.wb, h.ne, h.cap, Nat.le_trans h.top o.size⟩
theorem Hc.keep (h : Hc W lo hi N b k v0 bs cs c s) (o : Only (fun _ => False) W W') : Hc W' lo hi N b k v0 bs cs c s := h.only o (fun _ _ _ => id)
theorem Hc.drew (h : Hc W lo hi N b k v0 bs cs c s) : Hc W.drew lo hi N b k v0 bs cs c s := h.keep (Only.refl _ W).drew
theorem Hc.setB (h : Hc W lo hi N b k v0 bs cs c s) (i : Nat) (d : Nat × Bool) (hi' : i < cs.length) : Hc ((W.setCell ⟨b, i * 2, none⟩ (.int .u64 (d.1 : Int))).setCell ⟨b, i * 2 + 1, none⟩ (.bool d.2)) lo hi N b k v0 bs (cs.set i d) c s := by
  have o : Only (fun j => j = b) W ((W.setCell ⟨b, i * 2, none⟩ (.int .u64 (d.1 : Int))).setCell ⟨b, i * 2 + 1, none⟩ (.bool d.2)) := ((Only.refl (fun j => j = b) W).setCell ⟨b, i * 2, none⟩ _ rfl).setCell ⟨b, i * 2 + 1, none⟩ _ rfl
  refine ⟨h.row.only o (fun e => h.ne e.symm), ?_, R_only h.bnd o (fun j hj _ _ => hj.2.1), by rw [List.length_set]; exact h.len, h.wn, h.wb, h.ne, h.cap, Nat.le_trans h.top o.size⟩
  rw [← bc_set cs i d hi']
  exact (h.bow.set (i * 2) _).set (i * 2 + 1) _
theorem Hc.setC (h : Hc W lo hi N b k v0 bs cs c s) (d : Nat × Bool) : Hc ((W.setCell ⟨N, 2, none⟩ (.int .u64 (d.1 : Int))).setCell ⟨N, 3, none⟩ (.bool d.2)) lo hi N b k v0 bs cs d s := by
  have o : Only (fun j => j = N) W ((W.setCell ⟨N, 2, none⟩ (.int .u64 (d.1 : Int))).setCell ⟨N, 3, none⟩ (.bool d.2)) := ((Only.refl (fun j => j = N) W).setCell ⟨N, 2, none⟩ _ rfl).setCell ⟨N, 3, none⟩ _ rfl
  exact ⟨(h.row.set 2 _).set 3 _, h.bow.only o h.ne, R_only h.bnd o (fun j hj _ _ => hj.1), h.len, h.wn, h.wb, h.ne, h.cap, Nat.le_trans h.top o.size⟩
theorem Hc.setS (h : Hc W lo hi N b k v0 bs cs c s) (d : Nat × Bool) : Hc ((W.setCell ⟨N, 4, none⟩ (.int .u64 (d.1 : Int))).setCell ⟨N, 5, none⟩ (.bool d.2)) lo hi N b k v0 bs cs c d := by
  have o : Only (fun j => j = N) W ((W.setCell ⟨N, 4, none⟩ (.int .u64 (d.1 : Int))).setCell ⟨N, 5, none⟩ (.bool d.2)) := ((Only.refl (fun j => j = N) W).setCell ⟨N, 4, none⟩ _ rfl).setCell ⟨N, 5, none⟩ _ rfl
  exact ⟨(h.row.set 4 _).set 5 _, h.bow.only o h.ne, R_only h.bnd o (fun j hj _ _ => hj.1), h.len, h.wn, h.wb, h.ne, h.cap, Nat.le_trans h.top o.size⟩
theorem Hc.at_ (h : Hc W lo hi N b k v0 bs cs c s) (i : Nat) (hi' : i < cs.length) : (W.cell? ⟨b, i * 2, none⟩ = some (.int .u64 ((cs[i]).1 : Int)) ∧ W.frozen? ⟨b, i * 2, none⟩ = false) ∧ (W.cell? ⟨b, i * 2 + 1, none⟩ = some (.bool (cs[i]).2) ∧ W.frozen? ⟨b, i * 2 + 1, none⟩ = false) := by
  obtain ⟨h1, h2⟩ := bc_get cs i _ (List.getElem?_eq_getElem hi')
  exact ⟨h.bow _ _ h1, h.bow _ _ h2⟩
theorem Hc.bounds (h : Hc W lo hi N b k v0 bs cs c s) : ∃ A q, v0 = .slice A bs.length q ∧ bs.length ≤ q ∧ Kd.C (Kd.int .u64) W A bs.length (ofN bs) := by
  obtain ⟨A, q, rfl, hq, hC⟩ := Kd.R_reads h.bnd
  rw [ofN_length] at hq hC
  exact ⟨A, q, by rw [ofN_length], hq, hC⟩
end

/-- Within New: what stands before the object is laid. -/
structure Mk (w W : World) (bs : List Nat) (n : Nat) (s : (Option Addr × Nat) × Nat) : Prop where
  o : Only (fun _ => False) w W
  bnd : Kd.R (Kd.int .u64) 24 W w.heap.size (fun j => j ≠ s.2) (.slice s.1.1 n s.1.2) (ofN bs)
  row : Row W s.2 (bc (bucks bs []))
  lt : w.heap.size ≤ s.2 ∧ s.2 < W.heap.size
theorem zeros_bc (bs : List Nat) (n : Nat) (hn : n = bs.length) : zc (List.replicate (n + 1) ⟨0, false⟩) = bc (bucks bs []) := by
  rw [← zc_bc]
  congr 1
  subst hn
  unfold bucks
  apply List.ext_getElem?
  intro i
  by_cases hi : i < bs.length + 1
  · rw [List.getElem?_replicate, if_pos hi, List.getElem?_map, List.getElem?_map, List.getElem?_range hi]; rfl
  · rw [List.getElem?_eq_none (by simp; omega), List.getElem?_eq_none (by simp; omega)]
/-- The row of zeros that was made. -/
structure Zs (w W W' : World) (bs : List Nat) (b : Nat) : Prop where
  o : Only (fun _ => False) W W'
  row : Row W' b (bc (bucks bs []))
  lt : W.heap.size ≤ b ∧ b < W'.heap.size
theorem zs_of {w W W' : World} {v : Value} {bs : List Nat} {n : Nat} (hn : n = bs.length) (hr : Kd.R k26 26 W' W.heap.size (fun _ => True) v (List.replicate ((n : Int) + 1).toNat ⟨0, false⟩)) (hg : W.grownBy W' none) : ∃ b k, v = .slice (some ⟨b, 0, none⟩) (n + 1) k ∧ n + 1 ≤ k ∧ Zs w W W' bs b := by
  rw [show ((n : Int) + 1).toNat = n + 1 by omega] at hr
  obtain ⟨A, b, k, rfl, hk, h1, h2⟩ := Row_of_R hr
  rw [List.length_replicate] at hk h1
  obtain ⟨rfl, h3, h4, _⟩ := h1 (by omega)
  rw [zeros_bc bs n hn] at h2
  refine ⟨b, k, by rw [List.length_replicate], hk, ⟨⟨hg.os, hg.tape, hg.output, hg.size, fun j hj _ => hg.block j hj (by simp)⟩, h2, h3, h4⟩⟩
theorem mk_a {w wr W1 W2 : World} {A' : Option Addr} {n c' b : Nat} {bs : List Nat} (ho : Only (fun _ => False) w wr) (hr1 : Kd.R (Kd.int .u64) 24 W1 wr.drew.heap.size (fun _ => True) (.slice A' n c') (ofN bs)) (ho1 : Only (fun _ => False) wr.drew W1) (hZ : Zs w W1 W2 bs b) : Mk w W2 bs n ((A', c'), b) := by
  have o1 : Only (fun _ => False) w W1 := ho.drew.trans ho1
  refine ⟨o1.trans hZ.o, ?_, hZ.row, ⟨Nat.le_trans o1.size hZ.lt.1, hZ.lt.2⟩⟩
  have h2 := R_only (Kd.R_bound hr1) hZ.o (fun _ _ _ _ e => e)
  exact Kd.R_lower (Kd.R_mono h2 (fun j hj => by have := hj.2.2.1; have := hZ.lt.1; show j ≠ b; omega)) ho.size
theorem mk_b {w wr W1 W2 : World} {A' : Option Addr} {n c' b : Nat} {bs : List Nat} (ho : Only (fun _ => False) w wr) (hr1 : Kd.R (Kd.int .u64) 24 W2 W1.heap.size (fun _ => True) (.slice A' n c') (ofN bs)) (ho1 : Only (fun _ => False) W1 W2) (hZ : Zs w wr.drew W1 bs b) : Mk w W2 bs n ((A', c'), b) := by
  have o1 : Only (fun _ => False) w W1 := ho.drew.trans hZ.o
  refine ⟨o1.trans ho1, ?_, hZ.row.only ho1 id, ⟨Nat.le_trans ho.size hZ.lt.1, Nat.lt_of_lt_of_le hZ.lt.2 ho1.size⟩⟩
  exact Kd.R_lower (Kd.R_mono (Kd.R_bound hr1) (fun j hj => by have := hj.2.1; have := hZ.lt.2; show j ≠ b; omega)) o1.size
def NewPost (w : World) (bs : List Nat) (r : Ending) (w' : World) : Prop :=
  (okB bs ∧ ∃ N b k v0, r = .returned (.tuple #[.pointer (some ⟨N, 0, none⟩), .int .i64 0]) ∧ Hc w' w.heap.size w'.heap.size N b k v0 bs (bucks bs []) (0, false) (0, false) ∧ Only (fun _ => False) w w') ∨
  (¬ okB bs ∧ r = .returned (.tuple #[.pointer none, .int .i64 1]) ∧ Only (fun _ => False) w w')
theorem mk_done {w W W1 : World} {bs : List Nat} {n N : Nat} {s : (Option Addr × Nat) × Nat} {k : Nat} (hn : n = bs.length) (h : Mk w W bs n s) (hk : n + 1 ≤ k) (hg : N = W.heap.size) (hbox : W1.heap[N]? = some (.cells #[.slice s.1.1 n s.1.2, .slice (some ⟨s.2, 0, none⟩) (n + 1) k, .int .u64 0, .bool false, .int .u64 0, .bool false] 78 (0, 0))) (hb : Below W.heap.size W W1) :
    Hc W1 w.heap.size W1.heap.size N s.2 k (.slice s.1.1 n s.1.2) bs (bucks bs []) (0, false) (0, false) ∧ Only (fun _ => False) w W1 := by
  have o : Only (fun _ => False) W W1 := Only.of_below hb (fun j hj _ => hj)
  have hlt := h.lt
  have hs := h.o.size
  subst hn
  have hN : N < W1.heap.size := (Array.getElem?_eq_some_iff.1 hbox).1
  refine ⟨⟨row_of_blk hbox, h.row.only o id, ?_, bucks_length _ _, ⟨by omega, hN⟩, ⟨hlt.1, by omega⟩, by omega, hk, Nat.le_refl _⟩, h.o.trans o⟩
  have h2 := R_only (Kd.R_bound h.bnd) o (fun _ _ _ _ e => e)
  exact Kd.R_mono h2 (fun j hj => ⟨by have := hj.2.2.1; omega, hj.1, by have := hj.2.2.1; have := o.size; omega⟩)
set_option maxHeartbeats 8000000 in
set_option maxRecDepth 1000000 in
theorem new_walk (w : World) (A : Option Addr) (n c : Nat) (bs : List Nat) (hC : Kd.C (Kd.int .u64) w A n (ofN bs)) (hn : n = bs.length) (hc : n ≤ c) (hl : n ≤ 1000) :
    Calls Try.prog 31 #[.slice A n c] w (NewPost w bs) := by
  have HC := Aside0.mk hC
  have HN := Aside0.mk hn
  have Hcc := Aside0.mk hc
  clear hC hn hc
  by_cases h32 : (32 : Int) < (n : Int)
  · go_enter Try.func31, Try.ntmps31
    go_wp2
    go_ret2
    exact .inr ⟨fun h => by have := h.1; have := HN.out; omega, rfl, Only.refl _ w⟩
  · go_enter Try.func31, Try.ntmps31
    go_wp2
    go_loopg [4] (n + 2) (fun kq v4 wr => ∃ i : Nat, v4 = .int .i64 (i : Int) ∧ 1 ≤ i ∧ (i ≤ n ∨ i = 1) ∧ n + 1 - i < kq ∧ Aside0 (Only (fun _ => False) w wr) ∧ Aside0 (∀ j, j + 1 < i → bs.getD j 0 < bs.getD (j + 1) 0))
    case atStart => exact ⟨1, rfl, by omega, by omega, by omega, ⟨Only.refl _ w⟩, ⟨fun j hj => by omega⟩⟩
    case round =>
      obtain ⟨i, rfl, h1, h2, hk, HO, HA⟩ := hrel
      obtain ⟨k1, rfl⟩ : ∃ m, gk = m + 1 := ⟨gk - 1, by omega⟩
      by_cases hin : i < n
      · have hinI : (i : Int) < (n : Int) := by omega
        have hi0 : (0 : Int) ≤ (i : Int) := by omega
        obtain ⟨j, hij⟩ : ∃ j, i = j + 1 := ⟨i - 1, by omega⟩
        have hijI : (i : Int) - 1 = (j : Int) := by omega
        have hj0 : (0 : Int) ≤ (j : Int) := by omega
        have hjn : (j : Int) < (n : Int) := by omega
        have HC' := Kd.C_below HC.out (below_of HO.out)
        obtain ⟨ad, rfl, hx⟩ := num_at HC' i (by rw [← HN.out]; exact hin)
        obtain ⟨ad', e', hy⟩ := num_at HC' j (by rw [← HN.out]; omega)
        cases e'
        clear HC'
        have hnx := Aside0.mk (show bs.getD i 0 ≤ bs.getD j 0 → ¬ okB bs from fun h hh => by have := hh.2 j (by rw [← HN.out]; omega); rw [← hij] at this; omega)
        have hny := Aside0.mk (show ¬ bs.getD i 0 ≤ bs.getD j 0 → ∀ q, q + 1 < i + 1 → bs.getD q 0 < bs.getD (q + 1) 0 from fun h q hq => by
          by_cases e : q = j
          · subst e; rw [← hij]; omega
          · exact HA.out q (by omega))
        generalize bs.getD i 0 = x at hx hnx hny
        generalize bs.getD j 0 = y at hy hnx hny
        clear hij
        by_cases hxy : x ≤ y
        · have hxyI : (x : Int) ≤ (y : Int) := by omega
          go_wp2
          go_quiet (fail)
          go_wp2
          go_ret2
          exact .inr ⟨hnx.out hxy, rfl, HO.out.drewN _⟩
        · have hxyI : ¬ (x : Int) ≤ (y : Int) := by omega
          go_wp2
          go_quiet (fail)
          go_wp2
          go_roundg k1
          case measure => omega
          case rel => exact ⟨i + 1, by first | rfl | simp, by omega, by omega, by omega, ⟨HO.out.drewN _⟩, ⟨hny.out hxy⟩⟩
      · have hinI : ¬ (i : Int) < (n : Int) := by omega
        have hok : Aside0 (okB bs) := ⟨⟨by have := HN.out; omega, fun j hj => HA.out j (by have := HN.out; omega)⟩⟩
        clear HA
        have HC' := Aside0.mk (fun W (o : Only (fun _ => False) w W) => Kd.C_below HC.out (below_of o))
        go_wp2
        have hwn := Aside0.mk (show wrap64 ((n : Int) + 1) = (n : Int) + 1 from IntWalk.wrap64_in _ (by omega))
        refine start_ (n := 10) (S := fun _ : World => True) (ds := []) #[false, false, false, false, false, false, false, false, false, false] (by kernel_rfl) rfl rfl trivial (fun hHeld => ?_)
        refine pure_ (i := 0) (N := some 24) (v := ?_) (a' := ?_) #[true, false, false, false, false, false, false, false, false, false] rfl rfl (by kernel_rfl) (fun _ _ _ h => h) (Or.inl ⟨by rfl, ?_⟩) ?_ ?_
        rotate_left
        · intro w'
          go_simp
          with_reducible rfl
        rotate_left
        · simp only [Act.put, List.setIfInBounds_toArray, List.set_cons_zero, List.set_cons_succ, i64_w, i32_w]
          rfl
        refine pure_ (i := 2) (N := some 26) (v := ?_) (a' := ?_) #[true, false, true, false, false, false, false, false, false, false] rfl rfl (by kernel_rfl) (fun _ _ _ h => h) (Or.inl ⟨by rfl, ?_⟩) ?_ ?_
        rotate_left
        · intro w'
          go_simp
          with_reducible rfl
        rotate_left
        · simp only [Act.put, List.setIfInBounds_toArray, List.set_cons_zero, List.set_cons_succ, i64_w, i32_w]
          rfl
        refine pure_ (i := 3) (N := some 27) (v := ?_) (a' := ?_) #[true, false, true, true, false, false, false, false, false, false] rfl rfl (by kernel_rfl) (fun _ _ _ h => h) (Or.inl ⟨by rfl, ?_⟩) ?_ ?_
        rotate_left
        · intro w'
          go_simp
          with_reducible rfl
        rotate_left
        · simp only [Act.put, List.setIfInBounds_toArray, List.set_cons_zero, List.set_cons_succ, i64_w, i32_w]
          rfl
        refine pure_ (i := 4) (N := some 28) (v := ?_) (a' := ?_) #[true, false, true, true, true, false, false, false, false, false] rfl rfl (by kernel_rfl) (fun _ _ _ h => h) (Or.inl ⟨by rfl, ?_⟩) ?_ ?_
        rotate_left
        · intro w'
          go_simp
          with_reducible rfl
        rotate_left
        · simp only [Act.put, List.setIfInBounds_toArray, List.set_cons_zero, List.set_cons_succ, i64_w, i32_w]
          rfl
        refine join_ (σ := ((Option Addr × Nat) × Nat) × {k : Nat // n + 1 ≤ k}) 4 #[true, true, true, true, true, true, false, false, false, false] (fun s_ => [(25, .slice s_.1.1.1 n s_.1.1.2), (29, .slice (some ⟨s_.1.2, 0, none⟩) (n + 1) s_.2.1)]) (fun s_ w' => Mk w w' bs n s_.1) ?_ ?_
        · rintro ⟨⟨⟨A', c'⟩, b⟩, ⟨k, hk⟩⟩ W hF
          replace hF := Aside0.mk hF
          refine norm_ (a' := ?_) ?_ ?_
          rotate_left
          · simp only [putAll, Act.put, List.setIfInBounds_toArray, List.set_cons_zero, List.set_cons_succ]
            rfl
          refine pure_ (i := 6) (N := some 30) (v := ?_) (a' := ?_) #[true, true, true, true, true, true, true, false, false, false] rfl rfl (by kernel_rfl) (fun _ _ _ h => h) (Or.inl ⟨by rfl, ?_⟩) ?_ ?_
          rotate_left
          · intro w'
            go_simp
            with_reducible rfl
          rotate_left
          · simp only [Act.put, List.setIfInBounds_toArray, List.set_cons_zero, List.set_cons_succ, i64_w, i32_w]
            rfl
          refine one_ (i := 7) (N := some 31) #[true, true, true, true, true, true, true, true, false, false] rfl rfl (by kernel_rfl) (by decide) (fun K hK => ?_)
          refine box_step ?hg (N := 31) ?hd (cs := #[.slice A' n c', .slice (some ⟨b, 0, none⟩) (n + 1) k, .int .u64 0, .bool false, .int .u64 0, .bool false]) (t := 78) ?hr ?_; (case hd => rfl); (case hg => rfl); (case hr => first | (go_simp; done) | (go_simp; rfl))
          intro N hg W1 hbox hb
          have hD := Aside0.mk (mk_done HN.out hF.out hk hg hbox hb)
          clear hbox hb hg
          refine hK.out _ _ (trivial) (fun hHeld => ?_)
          clear hK K
          refine norm_ (a' := ?_) ?_ ?_
          rotate_left
          · show Act.put _ (some 31) _ = _
            simp only [Act.put, List.setIfInBounds_toArray, List.set_cons_zero, List.set_cons_succ, i64_w, i32_w]
            rfl
          refine pure_ (i := 8) (N := some 2) (v := ?_) (a' := ?_) #[true, true, true, true, true, true, true, true, true, false] rfl rfl (by kernel_rfl) (fun _ _ _ h => h) (Or.inl ⟨by rfl, ?_⟩) ?_ ?_
          rotate_left
          · intro w'
            go_simp
            with_reducible rfl
          rotate_left
          · simp only [Act.put, List.setIfInBounds_toArray, List.set_cons_zero, List.set_cons_succ, i64_w, i32_w]
            rfl
          refine pure_ (i := 9) (N := some 3) (v := ?_) (a' := ?_) #[true, true, true, true, true, true, true, true, true, true] rfl rfl (by kernel_rfl) (fun _ _ _ h => h) (Or.inl ⟨by rfl, ?_⟩) ?_ ?_
          rotate_left
          · intro w'
            go_simp
            with_reducible rfl
          rotate_left
          · simp only [Act.put, List.setIfInBounds_toArray, List.set_cons_zero, List.set_cons_succ, i64_w, i32_w]
            rfl
          refine done_ (by kernel_rfl) ?_
          go_wp2
          go_ret2
          exact .inl ⟨hok.out, N, b, k, _, rfl, hD.out.1, hD.out.2⟩
        · intro hJ
          refine two_ (i := 1) (j := 5) (Ni := some 25) (Nj := some 29) #[true, true, true, true, true, false, false, false, false, false] #[true, false, true, true, true, true, false, false, false, false] rfl rfl rfl rfl (by kernel_rfl) (by decide) (by decide) (fun K hK => ?_) (fun K hK => ?_)
          · refine goes_ Try.func44 (by kernel_rfl) rfl #[.slice A n c] (by rfl) rfl rfl (by (try simp only [List.map_toArray, List.map_cons, List.map_nil]); first | done | rfl) ?_
            refine (clone_walk _ A n c bs (HC'.out _ HO.out.drew) HN.out Hcc.out hl).mono ?_
            rintro e W1 ⟨A', c', rfl, hr1, ho1⟩
            replace hr1 := Aside0.mk hr1
            replace ho1 := Aside0.mk ho1
            refine ⟨_, rfl, ?_⟩
            refine hK.out _ _ (trivial) (fun hHeld => ?_)
            clear hK K
            refine norm_ (a' := ?_) ?_ ?_
            rotate_left
            · show Act.put _ (some 25) _ = _
              simp only [Act.put, List.setIfInBounds_toArray, List.set_cons_zero, List.set_cons_succ, i64_w, i32_w]
              rfl
            refine one_ (i := 5) (N := some 29) #[true, true, true, true, true, true, false, false, false, false] rfl rfl (by kernel_rfl) (by decide) (fun K hK => ?_)
            refine Kd.R_make_step k26 (w0 := W1) W1.heap.size 26 (by rfl) rfl 38 (.tmp 28) (.tmp 28) rfl (wrap64 ((n : Int) + 1)) rfl rfl Try.underlying38 (.agg #[.int .u64 0, .bool false]) 16 info26 rfl (by decide) (by decide) ⟨0, false⟩ (ok := fun _ => True) (okp := fun _ => True) (k26_mkM _ _ _ ⟨0, false⟩) (fun _ h => h) trivial (by rw [hwn.out]; omega) (by rw [hwn.out]; omega) (Below.refl _ _) (Nat.le_refl _) ?_
            intro v W2 hz hbz hgz _
            rw [hwn.out] at hz
            obtain ⟨b, k, rfl, hk, hZ⟩ := zs_of (w := w) HN.out hz hgz
            have hM := Aside0.mk (mk_a HO.out hr1.out ho1.out hZ)
            clear hz hbz hgz hZ
            refine hK.out _ _ (trivial) (fun hHeld => ?_)
            clear hK K
            refine norm_ (a' := ?_) ?_ ?_
            rotate_left
            · show Act.put _ (some 29) _ = _
              simp only [Act.put, List.setIfInBounds_toArray, List.set_cons_zero, List.set_cons_succ, i64_w, i32_w]
              rfl
            exact norm_ (by first | (simp only [putAll, Act.put, List.setIfInBounds_toArray, List.set_cons_zero, List.set_cons_succ]; done) | (simp only [putAll, Act.put, List.setIfInBounds_toArray, List.set_cons_zero, List.set_cons_succ]; rfl)) (hJ (((A', c'), b), ⟨k, hk⟩) _ hM.out)
          · refine Kd.R_make_step k26 (w0 := wr.drew) wr.drew.heap.size 26 (by rfl) rfl 38 (.tmp 28) (.tmp 28) rfl (wrap64 ((n : Int) + 1)) rfl rfl Try.underlying38 (.agg #[.int .u64 0, .bool false]) 16 info26 rfl (by decide) (by decide) ⟨0, false⟩ (ok := fun _ => True) (okp := fun _ => True) (k26_mkM _ _ _ ⟨0, false⟩) (fun _ h => h) trivial (by rw [hwn.out]; omega) (by rw [hwn.out]; omega) (Below.refl _ _) (Nat.le_refl _) ?_
            intro v W1 hz hbz hgz _
            rw [hwn.out] at hz
            obtain ⟨b, k, rfl, hk, hZ⟩ := zs_of (w := w) HN.out hz hgz
            replace hZ := Aside0.mk hZ
            clear hz hbz hgz
            refine hK.out _ _ (trivial) (fun hHeld => ?_)
            clear hK K
            refine norm_ (a' := ?_) ?_ ?_
            rotate_left
            · show Act.put _ (some 29) _ = _
              simp only [Act.put, List.setIfInBounds_toArray, List.set_cons_zero, List.set_cons_succ, i64_w, i32_w]
              rfl
            refine one_ (i := 1) (N := some 25) #[true, true, true, true, true, true, false, false, false, false] rfl rfl (by kernel_rfl) (by decide) (fun K hK => ?_)
            refine goes_ Try.func44 (by kernel_rfl) rfl #[.slice A n c] (by rfl) rfl rfl (by (try simp only [List.map_toArray, List.map_cons, List.map_nil]); first | done | rfl) ?_
            refine (clone_walk _ A n c bs (HC'.out _ (HO.out.drew.trans hZ.out.o)) HN.out Hcc.out hl).mono ?_
            rintro e W2 ⟨A', c', rfl, hr1, ho1⟩
            have hM := Aside0.mk (mk_b HO.out hr1 ho1 hZ.out)
            clear hr1 ho1
            refine ⟨_, rfl, ?_⟩
            refine hK.out _ _ (trivial) (fun hHeld => ?_)
            clear hK K
            refine norm_ (a' := ?_) ?_ ?_
            rotate_left
            · show Act.put _ (some 25) _ = _
              simp only [Act.put, List.setIfInBounds_toArray, List.set_cons_zero, List.set_cons_succ, i64_w, i32_w]
              rfl
            exact norm_ (by first | (simp only [putAll, Act.put, List.setIfInBounds_toArray, List.set_cons_zero, List.set_cons_succ]; done) | (simp only [putAll, Act.put, List.setIfInBounds_toArray, List.set_cons_zero, List.set_cons_succ]; rfl)) (hJ (((A', c'), b), ⟨k, hk⟩) _ hM.out)
end Go.Proofs.Ytdcbhakclhbdpaa.Hi
