/- What the law SamplerFree is handed, as data: a policy is a tree. No conditions. -/
import Derived.Test.YtgpkihnihmbomaaPt
import Derived.Test.YtgpkihnihmbomaaOpens
namespace Go.Proofs.Ytgpkihnihmbomaa.Sg
open Go.RowKit Go.Proofs.YtgpkihnihmbomaaW.PrintWords Go.Proofs.YtgpkihnihmbomaaW.PrintLast Go.Proofs.Ytgpkihnihmbomaa.Opens Go.Proofs.Ytgpkihnihmbomaa.XSs Go.Proofs.Ytgpkihnihmbomaa.Pt
set_option linter.unusedVariables false
def wf40 (x : S40) : Prop := (fun n : Int => (Lit.int .i64 n).wf = true) x.f0 ∧ (fun n : Int => (Lit.int .i64 n).wf = true) x.f1 ∧ (fun s : ByteArray => s.size ≤ maxLen) x.f2
theorem opens40 : Opens Try.prog k40 40 wf40 := ⟨by kernel_rfl, fun H enc w fuel cs x h => by
  obtain ⟨xs, n, _, _, hl, hxl, hf⟩ := DataW.trod_struct Try.underlying40 h
  have hn : xs.length = 3 := hxl.trans (by decide)
  rw [show Try.prog.cellsOf 40 = 3 from by kernel_rfl] at hl
  obtain ⟨a0, h0, w0⟩ := opens_field (o := 0) (i := 0) (opens_int Try.underlying3 (by kernel_rfl)) (by rw [hn]; decide) (hf 0 _ rfl)
  obtain ⟨a1, h1, w1⟩ := opens_field (o := 1) (i := 1) (opens_int Try.underlying2 (by kernel_rfl)) (by rw [hn]; decide) (hf 1 _ rfl)
  obtain ⟨a2, h2, w2⟩ := opens_field (o := 2) (i := 2) (opens_string Try.underlying9 (by kernel_rfl)) (by rw [hn]; decide) (hf 2 _ rfl)
  have hK := (pair_take h0 rfl (pair_take h1 rfl (last_take h2 hl)))
  rw [List.drop_zero] at hK
  exact ⟨⟨a0, a1, a2⟩, hK, w0, w1, w2⟩⟩
def wf120 (x : S120) : Prop := (fun s : ByteArray => s.size ≤ maxLen) x.f0 ∧ wf40 x.f1
theorem opens120 : Opens Try.prog k120 120 wf120 := ⟨by kernel_rfl, fun H enc w fuel cs x h => by
  obtain ⟨xs, n, _, _, hl, hxl, hf⟩ := DataW.trod_struct Try.underlying120 h
  have hn : xs.length = 2 := hxl.trans (by decide)
  rw [show Try.prog.cellsOf 120 = 4 from by kernel_rfl] at hl
  obtain ⟨a0, h0, w0⟩ := opens_field (o := 0) (i := 0) (opens_string Try.underlying9 (by kernel_rfl)) (by rw [hn]; decide) (hf 0 _ rfl)
  obtain ⟨a1, h1, w1⟩ := opens_field (o := 1) (i := 1) opens40 (by rw [hn]; decide) (hf 1 _ rfl)
  have hK := (pair_take h0 rfl (last_take h1 hl))
  rw [List.drop_zero] at hK
  exact ⟨⟨a0, a1⟩, hK, w0, w1⟩⟩
def wf99 (x : S99) : Prop := (fun n : Int => (Lit.int .u64 n).wf = true) x.f0 ∧ (fun n : Int => (Lit.int .u64 n).wf = true) x.f1 ∧ (fun n : Int => (Lit.int .u64 n).wf = true) x.f2 ∧ (fun s : ByteArray => s.size ≤ maxLen) x.f3 ∧ (fun s : ByteArray => s.size ≤ maxLen) x.f4 ∧ (fun n : Int => (Lit.int .i64 n).wf = true) x.f5 ∧ (fun n : Int => (Lit.int .i64 n).wf = true) x.f6 ∧ (fun n : Int => (Lit.int .u64 n).wf = true) x.f7 ∧ (fun n : Int => (Lit.int .u64 n).wf = true) x.f8 ∧ (fun l : List (S120) => l.length ≤ maxLen ∧ ∀ x ∈ l, wf120 x) x.f9
theorem opens99 : Opens Try.prog k99 99 wf99 := ⟨by kernel_rfl, fun H enc w fuel cs x h => by
  obtain ⟨xs, n, _, _, hl, hxl, hf⟩ := DataW.trod_struct Try.underlying99 h
  have hn : xs.length = 10 := hxl.trans (by decide)
  rw [show Try.prog.cellsOf 99 = 10 from by kernel_rfl] at hl
  obtain ⟨a0, h0, w0⟩ := opens_field (o := 0) (i := 0) (opens_int Try.underlying22 (by kernel_rfl)) (by rw [hn]; decide) (hf 0 _ rfl)
  obtain ⟨a1, h1, w1⟩ := opens_field (o := 1) (i := 1) (opens_int Try.underlying22 (by kernel_rfl)) (by rw [hn]; decide) (hf 1 _ rfl)
  obtain ⟨a2, h2, w2⟩ := opens_field (o := 2) (i := 2) (opens_int Try.underlying22 (by kernel_rfl)) (by rw [hn]; decide) (hf 2 _ rfl)
  obtain ⟨a3, h3, w3⟩ := opens_field (o := 3) (i := 3) (opens_string Try.underlying9 (by kernel_rfl)) (by rw [hn]; decide) (hf 3 _ rfl)
  obtain ⟨a4, h4, w4⟩ := opens_field (o := 4) (i := 4) (opens_string Try.underlying9 (by kernel_rfl)) (by rw [hn]; decide) (hf 4 _ rfl)
  obtain ⟨a5, h5, w5⟩ := opens_field (o := 5) (i := 5) (opens_int Try.underlying3 (by kernel_rfl)) (by rw [hn]; decide) (hf 5 _ rfl)
  obtain ⟨a6, h6, w6⟩ := opens_field (o := 6) (i := 6) (opens_int Try.underlying3 (by kernel_rfl)) (by rw [hn]; decide) (hf 6 _ rfl)
  obtain ⟨a7, h7, w7⟩ := opens_field (o := 7) (i := 7) (opens_int Try.underlying22 (by kernel_rfl)) (by rw [hn]; decide) (hf 7 _ rfl)
  obtain ⟨a8, h8, w8⟩ := opens_field (o := 8) (i := 8) (opens_int Try.underlying22 (by kernel_rfl)) (by rw [hn]; decide) (hf 8 _ rfl)
  obtain ⟨a9, h9, w9⟩ := opens_field (o := 9) (i := 9) (opens_slice Try.underlying97 (by kernel_rfl) opens120) (by rw [hn]; decide) (hf 9 _ rfl)
  have hK := (pair_take h0 rfl (pair_take h1 rfl (pair_take h2 rfl (pair_take h3 rfl (pair_take h4 rfl (pair_take h5 rfl (pair_take h6 rfl (pair_take h7 rfl (pair_take h8 rfl (last_take h9 hl))))))))))
  rw [List.drop_zero] at hK
  exact ⟨⟨a0, a1, a2, a3, a4, a5, a6, a7, a8, a9⟩, hK, w0, w1, w2, w3, w4, w5, w6, w7, w8, w9⟩⟩
/-- A slice read with so much fuel. -/
theorem slice_at {α : Type} {P : Program} {d : Kd α} {t e : TypeId} (N : Nat) (ht : P.underlying t = some (.slice e)) (hce : P.cellsOf e = d.sz) {H : Type} {enc : TypeId × Value → H} {w : World}
    (hel : ∀ (n : Nat) (cs' : List Value) (y : DataW H × List MemPlace), n < N → DataW.trod enc P w 0 (fun _ => true) true n e cs' = some y → ∃ a, d.K w a cs')
    {fuel : Nat} {cs : List Value} {x : DataW H × List MemPlace} (hf : fuel ≤ N) (h : DataW.trod enc P w 0 (fun _ => true) true fuel t cs = some x) : ∃ a, (Kd.slice e d).K w a cs := by
  rcases DataW.trod_slice ht h with ⟨rfl, _⟩ | ⟨a, len, cap, elems, rest, n, rfl, rfl, _, _, hl, hm, hlen, hi, _, _⟩
  · exact ⟨[], ⟨none, 0, rfl, Nat.le_refl _, ⟨rfl, by simp, fun h => absurd h (by simp)⟩⟩⟩
  · have all : ∀ l, l ≤ len → ∃ xs : List α, xs.length = l ∧ ∀ j p, xs[j]? = some p → ∃ cs', w.cells? 0 (a.add (j * P.cellsOf e)) (P.cellsOf e) = some cs' ∧ d.K w p cs' := by
      intro l
      induction l with
      | zero => exact fun _ => ⟨[], rfl, by simp⟩
      | succ l ih =>
        intro hlm
        obtain ⟨xs, hxl, hx⟩ := ih (by omega)
        have h0 := hi l (by omega)
        rw [List.getElem?_eq_getElem (by omega)] at h0
        obtain ⟨cs', h1, h2⟩ := Option.bind_eq_some_iff.1 h0
        obtain ⟨y, hK⟩ := hel n cs' _ (by omega) h2
        refine ⟨xs ++ [y], by simp [hxl], fun j p hj => ?_⟩
        by_cases hjl : j < l
        · rw [List.getElem?_append_left (by omega)] at hj
          exact hx j p hj
        · rw [List.getElem?_append_right (by omega)] at hj
          have h0 : j - xs.length = 0 := by
            rcases Nat.eq_zero_or_pos (j - xs.length) with h0 | h0
            · exact h0
            · rw [List.getElem?_eq_none (by rw [List.length_singleton]; omega)] at hj; cases hj
          rw [h0] at hj
          obtain rfl : y = p := by simpa using hj
          obtain rfl : j = l := by omega
          exact ⟨cs', h1, hK⟩
    obtain ⟨xs, rfl, hx⟩ := all len (Nat.le_refl _)
    refine ⟨xs, ⟨some a, cap, rfl, hl, rfl, Nat.le_trans hl hm, fun _ => ⟨a, rfl, fun j p hj => ?_⟩⟩⟩
    obtain ⟨cs', h1, hK⟩ := hx j p hj
    rw [hce] at h1
    obtain ⟨_, hlen, hat⟩ := World.cells?_some h1
    refine ⟨cs', hlen, hK, fun i u hu => ?_⟩
    have hil : i < d.sz := by rw [← hlen]; exact (List.getElem?_eq_some_iff.1 hu).1
    rw [← Go.Deep.add_add, hat i hil, hu]
theorem seven {α : Type} : ∀ (cs : List α), cs.length = 7 → ∃ c0 c1 c2 c3 c4 c5 c6, cs = [c0, c1, c2, c3, c4, c5, c6]
  | [c0, c1, c2, c3, c4, c5, c6], _ => ⟨_, _, _, _, _, _, _, rfl⟩
/-- A policy, as handed. -/
theorem pol_at {H : Type} {enc : TypeId × Value → H} {w : World} : ∀ (N fuel : Nat) (cs : List Value) (x : DataW H × List MemPlace), fuel ≤ N → DataW.trod enc Try.prog w 0 (fun _ => true) true fuel 43 cs = some x → ∃ p, (kp 43 N).K w p cs := by
  intro N
  induction N with
  | zero =>
    intro fuel cs x hf h
    obtain ⟨xs, n, e, _⟩ := DataW.trod_struct Try.underlying43 h
    omega
  | succ N ih =>
    intro fuel cs x hfu h
    obtain ⟨xs, n, rfl, _, hl, hxl, hf⟩ := DataW.trod_struct Try.underlying43 h
    have hn : xs.length = 5 := hxl.trans (by decide)
    rw [show Try.prog.cellsOf 43 = 7 from by kernel_rfl] at hl
    obtain ⟨a0, h0, _⟩ := opens_field (o := 0) (i := 0) (opens_string Try.underlying9 (by kernel_rfl)) (by rw [hn]; decide) (hf 0 _ rfl)
    obtain ⟨a1, h1, _⟩ := opens_field (o := 1) (i := 1) (opens_string Try.underlying9 (by kernel_rfl)) (by rw [hn]; decide) (hf 1 _ rfl)
    obtain ⟨a2, h2, _⟩ := opens_field (o := 2) (i := 2) opens40 (by rw [hn]; decide) (hf 2 _ rfl)
    obtain ⟨a3, h3, _⟩ := opens_field (o := 5) (i := 3) (opens_int Try.underlying22 (by kernel_rfl)) (by rw [hn]; decide) (hf 3 _ rfl)
    have h4 := hf 4 _ rfl
    rw [List.getElem?_eq_getElem (by rw [hn]; decide)] at h4
    obtain ⟨ks, A, c, h5, hc, hC⟩ := slice_at (d := kp 43 N) N Try.underlying41 (by rw [kp_sz]; kernel_rfl) (fun n' cs' y hn' ht => ih n' cs' y (by omega) ht) (by omega) h4
    have h5 : (cs.drop 6).take (Try.prog.cellsOf 41) = [.slice A ks.length c] := h5
    rw [show Try.prog.cellsOf 41 = 1 from by kernel_rfl] at h5
    have h2 := k40_open h2
    clear h4 hf hxl hn h ih
    obtain ⟨c0, c1, c2, c3, c4, c5, c6, rfl⟩ := seven cs hl
    have e0 : [c0] = [.string a0] := h0
    have e1 : [c1] = [.string a1] := h1
    have e2 : [c2, c3, c4] = [.int .i64 a2.f0, .int .i64 a2.f1, .string a2.f2] := h2
    have e3 : [c5] = [.int .u64 a3] := h3
    have e5 : [c6] = [.slice A ks.length c] := h5
    simp only [List.cons.injEq, and_true] at e0 e1 e2 e3 e5
    clear h0 h1 h2 h3 h5
    obtain ⟨rfl, rfl, rfl⟩ := e2
    subst e0 e1 e3 e5
    exact ⟨⟨a0, a1, a2.f0, a2.f1, a2.f2, a3, ks⟩, kp_mk w ⟨a0, a1, a2.f0, a2.f1, a2.f2, a3, ks⟩ hc hC⟩
end Go.Proofs.Ytgpkihnihmbomaa.Sg
