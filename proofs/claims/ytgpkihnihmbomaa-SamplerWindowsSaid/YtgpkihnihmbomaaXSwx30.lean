-- Made by a program of this session (xprint.py), over the translation; Lean checks it.
import Derived.Test.YtgpkihnihmbomaaXSwx0
namespace Go.Proofs.Ytgpkihnihmbomaa.XSw
open Go.RowKit Go.Proofs.YtgpkihnihmbomaaW.PrintWords Go.Proofs.YtgpkihnihmbomaaW.PrintLast Go.Proofs.YtgpkihnihmbomaaW.PrintMore
attribute [local go_sem] max2_int min2_int max_two min_two max_three min_three max_four min_four   -- for this text's walks alone
set_option linter.unusedVariables false
set_option linter.unusedSimpArgs false

/-! ### tallyroomlaw24_SamplerWindows: function 7 -/
def tallyroomlaw24_SamplerWindows.ua (x : S120) : Go.Proofs.Ytgpkihnihmbomaa.XSs.S120 := ⟨x.f0, ⟨x.f1.f0, x.f1.f1, x.f1.f2⟩⟩
theorem tallyroomlaw24_SamplerWindows.uak (w : World) (x : S120) (cs : List Value) (h : k120.K w x cs) : Go.Proofs.Ytgpkihnihmbomaa.XSs.k120.K w (tallyroomlaw24_SamplerWindows.ua x) cs := by
  obtain rfl := k120_open h
  exact Go.Proofs.Ytgpkihnihmbomaa.XSs.k120_mk w (tallyroomlaw24_SamplerWindows.ua x)
def tallyroomlaw24_SamplerWindows.u (x : S99) : Go.Proofs.Ytgpkihnihmbomaa.XSs.S99 := ⟨x.f0, x.f1, x.f2, x.f3, x.f4, x.f5, x.f6, x.f7, x.f8, x.f9.map tallyroomlaw24_SamplerWindows.ua⟩
theorem tallyroomlaw24_SamplerWindows.uk (w : World) (x : S99) (cs : List Value) (h : k99.K w x cs) : Go.Proofs.Ytgpkihnihmbomaa.XSs.k99.K w (tallyroomlaw24_SamplerWindows.u x) cs := by
  obtain ⟨A9, c9, rfl, l9, g9⟩ := k99_open h
  have e : (tallyroomlaw24_SamplerWindows.u x).f9.length = x.f9.length := List.length_map _
  have := Go.Proofs.Ytgpkihnihmbomaa.XSs.k99_mk w (tallyroomlaw24_SamplerWindows.u x) (A9 := A9) (c9 := c9) (by rw [e]; exact l9) (by rw [e]; exact Go.Proofs.Ytgpkihnihmbomaa.Cm.C_map tallyroomlaw24_SamplerWindows.ua rfl tallyroomlaw24_SamplerWindows.uak g9)
  rw [e] at this
  exact this
def tallyroomlaw24_SamplerWindows.f (l0 : List (List S99)) (wd most : Int) : Option Bool := if (0 ≤ wd ∧ wd ≤ 65535) ∧ (0 ≤ most ∧ most ≤ 255) ∧ (∀ x ∈ l0, ∀ s ∈ x, 0 ≤ s.f8 ∧ s.f8 < 18446744073709551616) then some true else none
theorem tallyroomlaw24_SamplerWindows.calls (A0 : Option Addr) (c0 : Nat) (l0 : List (List S99)) (wd most : Int) (r : Bool) (w : World) (hr0 : Kd.C (Kd.slice 99 k99) w A0 l0.length l0) (hc0 : l0.length ≤ c0) (h : tallyroomlaw24_SamplerWindows.f l0 wd most = some r) :
    Calls Try.prog 7 #[.slice A0 l0.length c0, .int .u16 wd, .int .u8 most] w fun y w' => y = .returned (.bool r) ∧ Below w.heap.size w w' := by
  unfold tallyroomlaw24_SamplerWindows.f at h
  by_cases hb : (0 ≤ wd ∧ wd ≤ 65535) ∧ (0 ≤ most ∧ most ≤ 255) ∧ (∀ x ∈ l0, ∀ s ∈ x, 0 ≤ s.f8 ∧ s.f8 < 18446744073709551616)
  · rw [if_pos hb] at h
    obtain rfl := Option.some.inj h
    obtain ⟨wd, rfl⟩ : ∃ n : Nat, wd = (n : Int) := ⟨wd.toNat, by omega⟩
    obtain ⟨most, rfl⟩ : ∃ n : Nat, most = (n : Int) := ⟨most.toNat, by omega⟩
    have e0 : (l0.map (List.map tallyroomlaw24_SamplerWindows.u)).length = l0.length := List.length_map _
    have h0 := Go.Proofs.Ytgpkihnihmbomaa.Cm.C_map (d' := Kd.slice 99 Go.Proofs.Ytgpkihnihmbomaa.XSs.k99) (List.map tallyroomlaw24_SamplerWindows.u) rfl (Go.Proofs.Ytgpkihnihmbomaa.Cm.slice_map tallyroomlaw24_SamplerWindows.u rfl tallyroomlaw24_SamplerWindows.uk) hr0
    have := Go.Proofs.Ytgpkihnihmbomaa.Sl.windows_law w A0 c0 (l0.map (List.map tallyroomlaw24_SamplerWindows.u)) wd most (by omega) (by omega) (fun x hx s hs => by
      obtain ⟨y, hy, rfl⟩ := List.mem_map.1 hx
      obtain ⟨t, ht, rfl⟩ := List.mem_map.1 hs
      exact hb.2.2 y hy t ht) (by rw [e0]; exact h0) (by rw [e0]; exact hc0)
    rw [e0] at this
    exact this
  · rw [if_neg hb] at h; cases h

end Go.Proofs.Ytgpkihnihmbomaa.XSw
