/- The law's proof, part 38: the text Oal of this session, or words printed for this seat; what the theorem doesn't use is left out. No conditions. -/
import Derived.Test.YtllepjhimkogjaaFSTe32
namespace Go.Proofs.Ytllepjhimkogjaa.Ix
end Go.Proofs.Ytllepjhimkogjaa.Ix
namespace Go.Proofs.Ytllepjhimkogjaa.Ob
end Go.Proofs.Ytllepjhimkogjaa.Ob
namespace Go.Proofs.Ytllepjhimkogjaa.Rw
end Go.Proofs.Ytllepjhimkogjaa.Rw
namespace Go.Proofs.Ytllepjhimkogjaa.Sk
end Go.Proofs.Ytllepjhimkogjaa.Sk
namespace Go.Proofs.Ytllepjhimkogjaa.Sw
end Go.Proofs.Ytllepjhimkogjaa.Sw
namespace Go.Proofs.Ytllepjhimkogjaa.Two
end Go.Proofs.Ytllepjhimkogjaa.Two
namespace Go.Proofs.YtllepjhimkogjaaW.PrintLast
end Go.Proofs.YtllepjhimkogjaaW.PrintLast
namespace Go.Proofs.YtllepjhimkogjaaW.PrintMore
end Go.Proofs.YtllepjhimkogjaaW.PrintMore
namespace Go.Proofs.YtllepjhimkogjaaW.PrintWords
end Go.Proofs.YtllepjhimkogjaaW.PrintWords
namespace Go.Proofs.Ytllepjhimkogjaa.Ck
open Go.RowKit Go.Proofs.YtllepjhimkogjaaW.PrintWords Go.Proofs.YtllepjhimkogjaaW.PrintLast
open Go.Proofs.Ytllepjhimkogjaa.Ob Go.Proofs.Ytllepjhimkogjaa.Two Go.Proofs.Ytllepjhimkogjaa.Sk Go.Proofs.YtllepjhimkogjaaW.PrintMore
set_option linter.unusedSimpArgs false
set_option linter.unusedVariables false
open Go.Proofs.Ytllepjhimkogjaa.Sw Go.Proofs.Ytllepjhimkogjaa.Ix
open Go.Proofs.Ytllepjhimkogjaa.Rw (srtL srtL_length srtL_mem srtL_find srtL_ord srtL_id)
theorem alike_y (w : World) (s0 s1 s2 : Int) (s3 s4 : ByteArray) (s5 s6 s7 s8 : Int) (A : Option Addr) (c : Nat) (l : List E) (k : Nat) (hk : l.length = k) (m : Int) (y3 y4 : ByteArray) (e3 : Lb.lab s3 m = y3) (e4 : Lb.lab s4 m = y4) (hC : Kd.C K51 w A k l) (hc : k ≤ c) (hl : k ≤ 40) (h3 : s3.size ≤ 5000) (h4 : s4.size ≤ 5000) :
    Calls Try.prog 27 #[.agg #[.int .u64 s0, .int .u64 s1, .int .u64 s2, .string s3, .string s4, .int .i64 s5, .int .i64 s6, .int .u64 s7, .int .u64 s8, .slice A k c], .int .i64 m] w fun e w' => ∃ V d, e = .returned (.agg #[.int .u64 s0, .int .u64 s1, .int .u64 s2, .string y3, .string y4, .int .i64 s5, .int .i64 s6, .int .u64 s7, .int .u64 s8, .slice V k d]) ∧ k ≤ d ∧ Kd.C K51 w' V k (srtL l) ∧ Below w.heap.size w w' := by
  subst e3 e4
  refine (alike_w3 w s0 s1 s2 s3 s4 s5 s6 s7 s8 A c l k hk m hC hc hl h3 h4).mono ?_
  rintro e w' ⟨V, d, rfl, hO, hb⟩
  have hL : (srtL l).length = k := by rw [srtL_length]; exact hk
  have hR := hO.reads (by omega)
  rw [hL] at hR
  exact ⟨V, d, rfl, by have := hO.1; omega, hR, hb⟩
structure Ow (w W2 W : World) (L : List (Nat × List Value)) : Prop where
  t : Bx w W L
  b : Below W2.heap.size W2 W
theorem Ow.keep {w W2 W W' : World} {L : List (Nat × List Value)} (h : Ow w W2 W L) (k : Below W.heap.size W W') : Ow w W2 W' L := ⟨h.t.keep k, h.b.trans (k.mono h.b.size)⟩
theorem Ow.drew {w W2 W : World} {L : List (Nat × List Value)} (h : Ow w W2 W L) : Ow w W2 W.drew L := h.keep ⟨rfl, rfl, rfl, Nat.le_refl _, fun _ _ => rfl⟩
theorem Ow.new {w W2 W : World} {L : List (Nat × List Value)} (h : Ow w W2 W L) (cs : List Value) (t : TypeId) : Ow w W2 (W.alloc (.cells cs.toArray t)) ((W.heap.size, cs) :: L) := ⟨h.t.new cs t, h.b.alloc h.b.size _⟩
theorem Ow.rest {w W2 W : World} {p : Nat × List Value} {L : List (Nat × List Value)} (h : Ow w W2 W (p :: L)) : Ow w W2 W L := ⟨h.t.sub (fun q hq => List.mem_cons_of_mem _ hq), h.b⟩
attribute [local go_sem] Go.Proofs.Ytllepjhimkogjaa.Sb.gtr_string
end Go.Proofs.Ytllepjhimkogjaa.Ck
