/- A row that reads as elements of one kind reads as those of another with the same cells. No conditions. -/
import Derived.Test.YtgpkihnihmbomaaWMore
namespace Go.Proofs.Ytgpkihnihmbomaa.Cm
open Go.RowKit Go.Proofs.YtgpkihnihmbomaaW.PrintWords
theorem C_map {α β : Type} {d : Kd α} {d' : Kd β} (g : α → β) (hs : d'.sz = d.sz) (hK : ∀ w x cs, d.K w x cs → d'.K w (g x) cs) {w : World} {A : Option Addr} {n : Nat} {xs : List α} (h : d.C w A n xs) : d'.C w A n (xs.map g) := by
  obtain ⟨h1, h2, h3⟩ := h
  refine ⟨by rw [List.length_map]; exact h1, h2, fun hn => ?_⟩
  obtain ⟨ad, e, hc⟩ := h3 hn
  refine ⟨ad, e, fun j x hx => ?_⟩
  rw [List.getElem?_map] at hx
  cases hx1 : xs[j]? with
  | none => rw [hx1] at hx; cases hx
  | some y =>
    rw [hx1] at hx
    obtain rfl := Option.some.inj hx
    obtain ⟨cs, hl, hk, hcell⟩ := hc j y hx1
    exact ⟨cs, by rw [hs]; exact hl, hK _ _ _ hk, by rw [hs]; exact hcell⟩
theorem slice_map {α β : Type} {d : Kd α} {d' : Kd β} {e e' : Nat} (g : α → β) (hs : d'.sz = d.sz) (hK : ∀ w x cs, d.K w x cs → d'.K w (g x) cs) (w : World) (xs : List α) (cs : List Value) (h : (Kd.slice e d).K w xs cs) : (Kd.slice e' d').K w (xs.map g) cs := by
  obtain ⟨A, c, rfl, hl, hC⟩ := h
  have e : (xs.map g).length = xs.length := List.length_map _
  exact ⟨A, c, by rw [e], by rw [e]; exact hl, by rw [e]; exact C_map g hs hK hC⟩
end Go.Proofs.Ytgpkihnihmbomaa.Cm
