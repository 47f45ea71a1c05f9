/- Plain lemmas: what a law is handed, read as data, in the words of the walks: numbers, texts, slices and structs of whatever depth. -/
import Derived.Test.YtgpkihnihmbomaaWNEv
import Derived.Test.YtgpkihnihmbomaaWInvWords
import Derived.Deep.Slices
import Derived.Deep.Fields
import Derived.ChangeSame
namespace Go.Proofs.Ytgpkihnihmbomaa.Opens
open Go.RowKit Go.Proofs.YtgpkihnihmbomaaW.PrintWords Go.Proofs.YtgpkihnihmbomaaW.PrintLast Go.ChangeShapes Go.WideShapes

/-- What reads as data of type t is told by the kind d, and is well formed. -/
def Opens (P : Program) {α : Type} (d : Kd α) (t : TypeId) (Wf : α → Prop) : Prop :=
  P.cellsOf t = d.sz ∧ ∀ (H : Type) (enc : TypeId × Value → H) (w : World) (fuel : Nat) (cs : List Value) (x : DataW H × List MemPlace),
    DataW.trod enc P w 0 (fun _ => true) true fuel t cs = some x → ∃ a : α, d.K w a cs ∧ Wf a
variable {P : Program}
theorem opens_int {t : TypeId} {k : IntKind} (ht : P.underlying t = some (.int k)) (hc : P.cellsOf t = 1) : Opens P (Kd.int k) t (fun n => (Lit.int k n).wf = true) :=
  ⟨hc, fun _ _ _ _ _ _ h => by
    obtain ⟨n, rfl, _, hw⟩ := DataW.trod_int ht h
    exact ⟨n, rfl, hw⟩⟩
theorem opens_bool {t : TypeId} (ht : P.underlying t = some .bool) (hc : P.cellsOf t = 1) : Opens P Kd.bool t (fun _ => True) :=
  ⟨hc, fun _ _ _ _ _ _ h => by
    obtain ⟨b, rfl, _⟩ := DataW.trod_bool ht h
    exact ⟨b, rfl, trivial⟩⟩
theorem opens_string {t : TypeId} (ht : P.underlying t = some .string) (hc : P.cellsOf t = 1) : Opens P Kd.string t (fun s => s.size ≤ maxLen) :=
  ⟨hc, fun _ _ _ _ _ _ h => by
    obtain ⟨s, rfl, _, hw⟩ := DataW.trod_string ht h
    exact ⟨s, rfl, hw⟩⟩
theorem opens_slice {α : Type} {d : Kd α} {t e : TypeId} {Wf : α → Prop} (ht : P.underlying t = some (.slice e)) (hc : P.cellsOf t = 1) (he : Opens P d e Wf) :
    Opens P (Kd.slice e d) t (fun xs => xs.length ≤ maxLen ∧ ∀ x ∈ xs, Wf x) :=
  ⟨hc, fun H enc w fuel cs x h => by
    obtain ⟨hce, hel⟩ := he
    rcases Go.Deep.open_slice ht h with ⟨rfl, _⟩ | ⟨a, len, cap, m, n, D, Pl, rfl, _, hl, hm, hmm, _, hi⟩
    · exact ⟨[], ⟨none, 0, rfl, Nat.le_refl _, ⟨rfl, by simp, fun h => absurd h (by simp)⟩⟩, by simp [maxLen], by simp⟩
    · simp only [if_true] at hmm
      subst hmm
      have all : ∀ l, l ≤ m → ∃ xs : List α, xs.length = l ∧ ∀ j p, xs[j]? = some p → (∃ cs', w.cells? 0 (a.add (j * P.cellsOf e)) (P.cellsOf e) = some cs' ∧ d.K w p cs') ∧ Wf p := by
        intro l
        induction l with
        | zero => exact fun _ => ⟨[], rfl, by simp⟩
        | succ l ih =>
          intro hlm
          obtain ⟨xs, hxl, hx⟩ := ih (by omega)
          obtain ⟨cs', h1, h2⟩ := hi l (by omega)
          obtain ⟨y, hK, hW⟩ := hel H enc w n cs' _ h2
          refine ⟨xs ++ [y], by simp [hxl], fun j p hj => ?_⟩
          by_cases hjl : j < l
          · rw [List.getElem?_append_left (by omega)] at hj
            exact hx j p hj
          · rw [List.getElem?_append_right (by omega)] at hj
            have h0 : j - xs.length = 0 := by
              rcases Nat.eq_zero_or_pos (j - xs.length) with h0 | h0
              · exact h0
              · rw [List.getElem?_eq_none (by rw [List.length_singleton]; omega)] at hj; cases hj
            rw [h0] at hj
            obtain rfl : y = p := by simpa using hj
            obtain rfl : j = l := by omega
            exact ⟨⟨cs', h1, hK⟩, hW⟩
      obtain ⟨xs, rfl, hx⟩ := all len hl
      refine ⟨xs, ⟨some a, m, rfl, hl, rfl, Nat.le_trans hl hm, fun _ => ⟨a, rfl, fun j p hj => ?_⟩⟩, Nat.le_trans hl hm, fun p hp => ?_⟩
      · obtain ⟨⟨cs', h1, hK⟩, _⟩ := hx j p hj
        rw [hce] at h1
        obtain ⟨_, hlen, hat⟩ := World.cells?_some h1
        refine ⟨cs', hlen, hK, fun i u hu => ?_⟩
        have hil : i < d.sz := by rw [← hlen]; exact (List.getElem?_eq_some_iff.1 hu).1
        rw [← Go.Deep.add_add, hat i hil, hu]
      · obtain ⟨j, hj⟩ := List.getElem?_of_mem hp
        exact (hx j p hj).2⟩
/-- The first part of a struct's cells, and what is behind it. -/
theorem pair_take {α β : Type} {d1 : Kd α} {d2 : Kd β} {w : World} {x1 : α} {x2 : β} {cs : List Value} {o n m : Nat} (h1 : d1.K w x1 ((cs.drop o).take n)) (hm : o + n = m) (h2 : d2.K w x2 (cs.drop m)) : (Kd.pair d1 d2).K w (x1, x2) (cs.drop o) :=
  ⟨(cs.drop o).take n, cs.drop m, by rw [← hm, ← List.drop_drop, List.take_append_drop], h1, h2⟩
theorem last_take {α : Type} {d : Kd α} {w : World} {x : α} {cs : List Value} {o n : Nat} (h : d.K w x ((cs.drop o).take n)) (hl : cs.length = o + n) : d.K w x (cs.drop o) := by
  rwa [List.take_of_length_le (by rw [List.length_drop]; omega)] at h
/-- A field's reading. -/
theorem opens_field {α : Type} {d : Kd α} {t : TypeId} {Wf : α → Prop} (ho : Opens P d t Wf) {H : Type} {enc : TypeId × Value → H} {w : World} {n o : Nat} {cs : List Value} {xs : List (DataW H × List MemPlace)} {i : Nat} (hi : i < xs.length)
    (h : DataW.trod enc P w 0 (fun _ => true) true n t ((cs.drop o).take (P.cellsOf t)) = xs[i]?) : ∃ a : α, d.K w a ((cs.drop o).take d.sz) ∧ Wf a := by
  rw [List.getElem?_eq_getElem hi, ho.1] at h
  exact ho.2 H enc w n _ _ h
end Go.Proofs.Ytgpkihnihmbomaa.Opens
