/- Blocks of memory that one object owns: what a call keeps, and what stands in a row of cells. No conditions. -/
import Derived.Test.YtgpkihnihmbomaaProg
import Derived.WalkKit
import Derived.Below
import Derived.Deep.Draws
import Derived.Laws.NewBlocks
namespace Go.Proofs.Ytgpkihnihmbomaa.Ob
open Go.RowKit

/-- Only the blocks of S, and new ones, may be other. -/
structure Only (S : Nat → Prop) (w w' : World) : Prop where
  os : w'.os = w.os
  tape : w'.tape = w.tape
  output : w'.output = w.output
  size : w.heap.size ≤ w'.heap.size
  block : ∀ k, k < w.heap.size → ¬ S k → w'.heap[k]? = w.heap[k]?
theorem Only.refl (S : Nat → Prop) (w : World) : Only S w w := ⟨rfl, rfl, rfl, Nat.le_refl _, fun _ _ _ => rfl⟩
theorem Only.trans {S : Nat → Prop} {a b c : World} (h : Only S a b) (k : Only S b c) : Only S a c :=
  ⟨k.os.trans h.os, k.tape.trans h.tape, k.output.trans h.output, Nat.le_trans h.size k.size, fun i hi hs => (k.block i (Nat.lt_of_lt_of_le hi h.size) hs).trans (h.block i hi hs)⟩
theorem Only.mono {S T : Nat → Prop} {a b : World} (h : Only S a b) (hst : ∀ k, S k → T k) : Only T a b :=
  ⟨h.os, h.tape, h.output, h.size, fun i hi hs => h.block i hi fun e => hs (hst i e)⟩
theorem Only.drew {S : Nat → Prop} {a b : World} (h : Only S a b) : Only S a b.drew := ⟨h.os, h.tape, h.output, h.size, h.block⟩
theorem Only.drewN {S : Nat → Prop} {a b : World} (h : Only S a b) (n : Nat) : Only S a (b.drewN n) := ⟨h.os, h.tape, h.output, h.size, h.block⟩
theorem Only.alloc {S : Nat → Prop} {a b : World} (h : Only S a b) (o : Obj) : Only S a (b.alloc o) :=
  have e : (b.alloc o).heap = b.heap.push o := rfl
  h.trans ⟨rfl, rfl, rfl, by rw [e, Array.size_push]; omega, fun k hk _ => by rw [e, Array.getElem?_push, if_neg (Nat.ne_of_lt hk)]⟩
theorem Only.setCell {S : Nat → Prop} {a b : World} (h : Only S a b) (p : Addr) (v : Value) (hp : S p.block) : Only S a (b.setCell p v) :=
  h.trans ⟨rfl, rfl, rfl, by simp [World.setCell], fun k _ hs => by
    have : p.block ≠ k := fun e => hs (e ▸ hp)
    simp [World.setCell, Array.getElem?_modify, this]⟩
theorem Only.below {S : Nat → Prop} {w w' : World} (h : Only S w w') {B : Nat} (hS : ∀ k, S k → B ≤ k) (hB : B ≤ w.heap.size) : Below B w w' :=
  ⟨h.os, h.tape, h.output, h.size, fun k hk => h.block k (Nat.lt_of_lt_of_le hk hB) fun e => Nat.not_le_of_lt hk (hS k e)⟩
theorem Only.of_below {S : Nat → Prop} {B : Nat} {w w' : World} (h : Below B w w') (hS : ∀ k, k < w.heap.size → ¬ S k → k < B) : Only S w w' :=
  ⟨h.os, h.tape, h.output, h.size, fun k hk hs => h.block k (hS k hk hs)⟩
theorem below_only {B : Nat} {a b c : World} (h : Below B a b) {S : Nat → Prop} (k : Only S b c) (hS : ∀ k, S k → B ≤ k) (hB : B ≤ a.heap.size) : Below B a c :=
  h.trans (k.below hS (Nat.le_trans hB h.size))

/-- A row of cells, none of them frozen. -/
def Row (w : World) (b : Nat) (cs : List Value) : Prop := ∀ i v, cs[i]? = some v → w.cell? ⟨b, i, none⟩ = some v ∧ w.frozen? ⟨b, i, none⟩ = false
theorem Row.same {w w' : World} {b : Nat} {cs : List Value} (h : Row w b cs) (hb : b < w.heap.size → w'.heap[b]? = w.heap[b]?) : Row w' b cs := by
  intro i v hv
  have := h i v hv
  have hlt := World.block_lt_of_cell? w _ this.1
  have e := hb hlt
  unfold World.cell? World.frozen? at *
  rw [e]; exact this
theorem Row.only {w w' : World} {b : Nat} {cs : List Value} (h : Row w b cs) {S : Nat → Prop} (k : Only S w w') (hs : ¬ S b) : Row w' b cs := h.same fun hb => k.block b hb hs
theorem Row.drew {w : World} {b : Nat} {cs : List Value} (h : Row w b cs) : Row w.drew b cs := h
theorem Row.drewN {w : World} {b : Nat} {cs : List Value} (h : Row w b cs) (n : Nat) : Row (w.drewN n) b cs := h
theorem Row.alloc {w : World} {b : Nat} {cs : List Value} (h : Row w b cs) (o : Obj) : Row (w.alloc o) b cs := h.only ((Only.refl (fun _ => False) w).alloc o) id
theorem Row.far {w : World} {b : Nat} {cs : List Value} (h : Row w b cs) (p : Addr) (v : Value) (hp : p.block ≠ b) : Row (w.setCell p v) b cs :=
  h.only ((Only.refl (fun k => k ≠ b) w).setCell p v hp) (fun e => e rfl)
theorem Row.set {w : World} {b : Nat} {cs : List Value} (h : Row w b cs) (j : Nat) (v : Value) : Row (w.setCell ⟨b, j, none⟩ v) b (cs.set j v) := by
  intro i u hu
  have hi : ∃ u', cs[i]? = some u' := by
    have : i < cs.length := by have := (List.getElem?_eq_some_iff.1 hu).1; simpa using this
    exact ⟨cs[i], List.getElem?_eq_getElem this⟩
  obtain ⟨u', hu'⟩ := hi
  have ⟨hc, hf⟩ := h i u' hu'
  have hlt := World.block_lt_of_cell? w _ hc
  unfold World.cell? World.frozen? at *
  simp only at hc hf
  obtain ⟨o, ho⟩ : ∃ o, w.heap[b]? = some o := ⟨_, Array.getElem?_eq_getElem hlt⟩
  rw [ho] at hc hf
  cases o with
  | cells c t fz =>
    simp only [World.setCell, Array.getElem?_modify, ho, if_true, Option.map_some, Option.isSome_none, Bool.false_eq_true, if_false] at hc hf ⊢
    refine ⟨?_, hf⟩
    rw [List.getElem?_set] at hu
    by_cases e : j = i
    · subst e
      rw [if_pos rfl] at hu
      have hjc : j < c.size := (Array.getElem?_eq_some_iff.1 hc).1
      have hjl : j < cs.length := (List.getElem?_eq_some_iff.1 hu').1
      rw [if_pos hjl] at hu
      simp [hjc, Option.some.inj hu]
    · rw [if_neg e] at hu
      rw [hu'] at hu
      cases hu
      simpa [Array.getElem?_setIfInBounds, e] using hc
  | _ => simp at hc
theorem Row.new (w : World) (cs : List Value) (t : TypeId) : Row (w.alloc (.cells cs.toArray t)) w.heap.size cs := by
  intro i v hv
  rw [World.cell?_alloc_at _ _ _ _ rfl, World.frozen?_alloc_at _ _ _ _ rfl]
  exact ⟨by simpa using hv, rfl⟩
theorem Row.lt {w : World} {b : Nat} {cs : List Value} (h : Row w b cs) (hne : 0 < cs.length) : b < w.heap.size := by
  obtain ⟨v, hv⟩ : ∃ v, cs[0]? = some v := ⟨_, List.getElem?_eq_getElem hne⟩
  exact World.block_lt_of_cell? w _ (h 0 v hv).1
end Go.Proofs.Ytgpkihnihmbomaa.Ob
