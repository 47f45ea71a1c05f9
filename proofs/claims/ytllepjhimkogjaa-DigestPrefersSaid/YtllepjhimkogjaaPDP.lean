/- DigestPrefers: of several spans the same one is preferred in whatever order. No conditions. (The order is total; the pure statement; its proof.) -/
import Derived.Test.YtllepjhimkogjaaSk
import Derived.Test.YtllepjhimkogjaaXDPrx0
import Derived.Test.YtllepjhimkogjaaXDPrx25
import Derived.Test.YtllepjhimkogjaaOpens
namespace Go.Proofs.Ytllepjhimkogjaa.Sk
set_option linter.unusedSimpArgs false
set_option linter.unusedVariables false
/-- Three ways: -1, 0, 1; 0 between the same alone. -/
structure IsCmp {α : Type} (c : α → α → Int) : Prop where
  range : ∀ x y, c x y = -1 ∨ c x y = 0 ∨ c x y = 1
  swap : ∀ x y, c y x = - c x y
  zero : ∀ x y, c x y = 0 → x = y
  trans : ∀ x y z, c x y = -1 → c y z = -1 → c x z = -1
theorem IsCmp.self {α : Type} {c : α → α → Int} (h : IsCmp c) (x : α) : c x x = 0 := by have := h.swap x x; omega
theorem IsCmp.le_trans {α : Type} {c : α → α → Int} (h : IsCmp c) {x y z : α} (h1 : c x y ≤ 0) (h2 : c y z ≤ 0) : c x z ≤ 0 := by
  rcases h.range x y with e | e | e
  · rcases h.range y z with f | f | f
    · have := h.trans _ _ _ e f; omega
    · obtain rfl := h.zero _ _ f; omega
    · omega
  · obtain rfl := h.zero _ _ e; exact h2
  · omega
theorem IsCmp.prod {α β : Type} {c : α → α → Int} {d : β → β → Int} (h : IsCmp c) (k : IsCmp d) : IsCmp (fun x y : α × β => if c x.1 y.1 = 0 then d x.2 y.2 else c x.1 y.1) where
  range x y := by
    split
    · exact k.range _ _
    · exact h.range _ _
  swap x y := by
    have h1 := h.swap x.1 y.1
    have k1 := k.swap x.2 y.2
    by_cases e : c x.1 y.1 = 0
    · rw [if_pos e, if_pos (by omega)]; exact k1
    · rw [if_neg e, if_neg (by omega)]; exact h1
  zero x y hz := by
    by_cases e : c x.1 y.1 = 0
    · rw [if_pos e] at hz
      exact Prod.ext (h.zero _ _ e) (k.zero _ _ hz)
    · rw [if_neg e] at hz; exact absurd hz e
  trans x y z h1 h2 := by
    by_cases e : c x.1 y.1 = 0
    · have exy := h.zero _ _ e
      rw [if_pos e] at h1
      by_cases f : c y.1 z.1 = 0
      · have eyz := h.zero _ _ f
        rw [if_pos f] at h2
        rw [if_pos (by rw [exy, eyz]; exact h.self _)]
        exact k.trans _ _ _ h1 h2
      · rw [if_neg f] at h2
        rw [if_neg (by rw [exy]; omega), exy]; exact h2
    · rw [if_neg e] at h1
      by_cases f : c y.1 z.1 = 0
      · have eyz := h.zero _ _ f
        rw [if_neg (by rw [← eyz]; omega), ← eyz]; exact h1
      · rw [if_neg f] at h2
        have := h.trans _ _ _ h1 h2
        rw [if_neg (by omega)]; exact this
theorem IsCmp.pull {α β : Type} {c : α → α → Int} (h : IsCmp c) (f : β → α) (hf : ∀ x y, f x = f y → x = y) : IsCmp (fun x y => c (f x) (f y)) where
  range x y := h.range _ _
  swap x y := h.swap _ _
  zero x y hz := hf _ _ (h.zero _ _ hz)
  trans x y z := h.trans _ _ _
theorem ord_cmp : IsCmp ord where
  range x y := by unfold ord; split; simp; split <;> simp
  swap x y := by unfold ord; split <;> split <;> omega
  zero x y h := by unfold ord at h; split at h; cases h; split at h; cases h; omega
  trans x y z h k := by
    unfold ord at *
    split at h
    · split at k
      · rw [if_pos (by omega)]
      · split at k <;> cases k
    · split at h <;> cases h
theorem cb_cmp : IsCmp cb where
  range x y := Sb.cmp_range _ _
  swap x y := Sb.cmp_swap _ _
  zero x y h := by
    have := (Sb.cmp_zero _ _).1 h
    have e : x.data = y.data := by rw [← Array.toArray_toList (xs := x.data), this, Array.toArray_toList]
    cases x; cases y; simp at e; rw [e]
  trans x y z := Sb.cmp_trans _ _ _
theorem sord_cb' (a b : ByteArray) : sord a b = cb a b := by
  unfold sord cb
  rw [Sb.bl_ite, ByteArray.toList_eq, ByteArray.toList_eq]
theorem fnz_one (x : Int) : fnz [x] = x := by unfold fnz fnz; split <;> omega
theorem cmpV_cmp : IsCmp cmpV := by
  have h := ((ord_cmp.prod (ord_cmp.prod cb_cmp)).pull (fun x : Ty.S49 => (x.f0, x.f1, x.f2)) (fun x y e => by cases x; cases y; simpa using e))
  have e : (fun x y : Ty.S49 => cmpV x y) = _ := funext fun x => funext fun y => (show cmpV x y = (fun p q : Int × Int × ByteArray => if ord p.1 q.1 = 0 then (if ord p.2.1 q.2.1 = 0 then cb p.2.2 q.2.2 else ord p.2.1 q.2.1) else ord p.1 q.1) (x.f0, x.f1, x.f2) (y.f0, y.f1, y.f2) by
    unfold cmpV
    rw [fnz, fnz, fnz_one, sord_cb'])
  show IsCmp (fun x y : Ty.S49 => cmpV x y)
  rw [e]; exact h
theorem cmpA_cmp : IsCmp cmpA := by
  have h := ((cb_cmp.prod cmpV_cmp).pull (fun x : Ty.S51 => (x.f0, x.f1)) (fun x y e => by cases x; cases y; simpa using e))
  have e : (fun x y : Ty.S51 => cmpA x y) = _ := funext fun x => funext fun y => (show cmpA x y = (fun p q : ByteArray × Ty.S49 => if cb p.1 q.1 = 0 then cmpV p.2 q.2 else cb p.1 q.1) (x.f0, x.f1) (y.f0, y.f1) by
    unfold cmpA
    rw [fnz, fnz_one])
  show IsCmp (fun x y : Ty.S51 => cmpA x y)
  rw [e]; exact h
theorem cmpL_range : ∀ x y, cmpL x y = -1 ∨ cmpL x y = 0 ∨ cmpL x y = 1
  | [], [] => Or.inr (Or.inl rfl)
  | [], _ :: _ => Or.inl rfl
  | _ :: _, [] => Or.inr (Or.inr rfl)
  | a :: x, b :: y => by
    rw [cmpL]; split
    · exact cmpL_range x y
    · exact cmpA_cmp.range _ _
theorem cmpL_swap : ∀ x y, cmpL y x = - cmpL x y
  | [], [] => rfl
  | [], _ :: _ => rfl
  | _ :: _, [] => rfl
  | a :: x, b :: y => by
    have h := cmpA_cmp.swap a b
    rw [cmpL, cmpL]
    by_cases e : cmpA a b = 0
    · rw [if_pos e, if_pos (by omega)]; exact cmpL_swap x y
    · rw [if_neg e, if_neg (by omega)]; exact h
theorem cmpL_zero : ∀ x y, cmpL x y = 0 → x = y
  | [], [], _ => rfl
  | [], _ :: _, h => by cases h
  | _ :: _, [], h => by cases h
  | a :: x, b :: y, h => by
    rw [cmpL] at h
    by_cases e : cmpA a b = 0
    · rw [if_pos e] at h
      rw [cmpA_cmp.zero _ _ e, cmpL_zero x y h]
    · rw [if_neg e] at h; exact absurd h e
theorem cmpL_trans : ∀ x y z, cmpL x y = -1 → cmpL y z = -1 → cmpL x z = -1
  | [], [], _, h, _ => by cases h
  | [], _ :: _, [], _, h => by cases h
  | [], _ :: _, _ :: _, _, _ => rfl
  | _ :: _, [], _, h, _ => by cases h
  | _ :: _, _ :: _, [], _, h => by cases h
  | a :: x, b :: y, c :: z, h1, h2 => by
    rw [cmpL] at *
    by_cases e : cmpA a b = 0
    · have exy := cmpA_cmp.zero _ _ e
      rw [if_pos e] at h1
      by_cases f : cmpA b c = 0
      · have eyz := cmpA_cmp.zero _ _ f
        rw [if_pos f] at h2
        rw [if_pos (by rw [exy, eyz]; exact cmpA_cmp.self _)]
        exact cmpL_trans x y z h1 h2
      · rw [if_neg f] at h2
        rw [if_neg (by rw [exy]; omega), exy]; exact h2
    · rw [if_neg e] at h1
      by_cases f : cmpA b c = 0
      · have eyz := cmpA_cmp.zero _ _ f
        rw [if_neg (by rw [← eyz]; omega), ← eyz]; exact h1
      · rw [if_neg f] at h2
        have := cmpA_cmp.trans _ _ _ h1 h2
        rw [if_neg (by omega)]; exact this
theorem cmpL_cmp : IsCmp cmpL := ⟨cmpL_range, cmpL_swap, cmpL_zero, cmpL_trans⟩
/-- A span's data. -/
structure Sp where
  t : Int
  i : Int
  p : Int
  s : ByteArray
  n : ByteArray
  k : Int
  st : Int
  b : Int
  e : Int
  at_ : List Ty.S51
def cmpS (x y : Sp) : Int := fnz [ord x.t y.t, ord x.i y.i, ord x.p y.p, cb x.s y.s, cb x.n y.n, ord x.k y.k, ord x.st y.st, ord x.b y.b, ord x.e y.e, cmpL x.at_ y.at_]
def tup (x : Sp) : Int × Int × Int × ByteArray × ByteArray × Int × Int × Int × Int × List Ty.S51 := (x.t, x.i, x.p, x.s, x.n, x.k, x.st, x.b, x.e, x.at_)
theorem cmpS_cmp : IsCmp cmpS := by
  have h := (ord_cmp.prod (ord_cmp.prod (ord_cmp.prod (cb_cmp.prod (cb_cmp.prod (ord_cmp.prod (ord_cmp.prod (ord_cmp.prod (ord_cmp.prod cmpL_cmp))))))))).pull tup (fun x y e => by cases x; cases y; simpa [tup] using e)
  have e : (fun x y : Sp => cmpS x y) = _ := funext fun x => funext fun y => (show cmpS x y = _ by
    unfold cmpS
    rw [fnz, fnz, fnz, fnz, fnz, fnz, fnz, fnz, fnz, fnz_one])
  show IsCmp (fun x y : Sp => cmpS x y)
  rw [e]; exact h
end Go.Proofs.Ytllepjhimkogjaa.Sk

namespace Go.Proofs.Ytllepjhimkogjaa.XDPr
open Go.RowKit Go.Proofs.YtllepjhimkogjaaW.PrintWords Go.Proofs.YtllepjhimkogjaaW.PrintLast Go.Proofs.Ytllepjhimkogjaa.Opens
set_option linter.unusedVariables false
def wf61 (x : S61) : Prop := (fun n : Int => (Lit.int .i64 n).wf = true) x.f0 ∧ (fun n : Int => (Lit.int .i64 n).wf = true) x.f1 ∧ (fun s : ByteArray => s.size ≤ maxLen) x.f2
theorem opens61 : Opens Try.prog k61 61 wf61 := ⟨by kernel_rfl, fun H enc w fuel cs x h => by
  obtain ⟨xs, n, _, _, hl, hxl, hf⟩ := DataW.trod_struct Try.underlying61 h
  have hn : xs.length = 3 := hxl.trans (by decide)
  rw [show Try.prog.cellsOf 61 = 3 from by kernel_rfl] at hl
  obtain ⟨a0, h0, w0⟩ := opens_field (o := 0) (i := 0) (opens_int Try.underlying3 (by kernel_rfl)) (by rw [hn]; decide) (hf 0 _ rfl)
  obtain ⟨a1, h1, w1⟩ := opens_field (o := 1) (i := 1) (opens_int Try.underlying2 (by kernel_rfl)) (by rw [hn]; decide) (hf 1 _ rfl)
  obtain ⟨a2, h2, w2⟩ := opens_field (o := 2) (i := 2) (opens_string Try.underlying9 (by kernel_rfl)) (by rw [hn]; decide) (hf 2 _ rfl)
  have hK := (pair_take h0 rfl (pair_take h1 rfl (last_take h2 hl)))
  rw [List.drop_zero] at hK
  exact ⟨⟨a0, a1, a2⟩, hK, w0, w1, w2⟩⟩
def wf63 (x : S63) : Prop := (fun s : ByteArray => s.size ≤ maxLen) x.f0 ∧ wf61 x.f1
theorem opens63 : Opens Try.prog k63 63 wf63 := ⟨by kernel_rfl, fun H enc w fuel cs x h => by
  obtain ⟨xs, n, _, _, hl, hxl, hf⟩ := DataW.trod_struct Try.underlying63 h
  have hn : xs.length = 2 := hxl.trans (by decide)
  rw [show Try.prog.cellsOf 63 = 4 from by kernel_rfl] at hl
  obtain ⟨a0, h0, w0⟩ := opens_field (o := 0) (i := 0) (opens_string Try.underlying9 (by kernel_rfl)) (by rw [hn]; decide) (hf 0 _ rfl)
  obtain ⟨a1, h1, w1⟩ := opens_field (o := 1) (i := 1) opens61 (by rw [hn]; decide) (hf 1 _ rfl)
  have hK := (pair_take h0 rfl (last_take h1 hl))
  rw [List.drop_zero] at hK
  exact ⟨⟨a0, a1⟩, hK, w0, w1⟩⟩
def wf37 (x : S37) : Prop := (fun n : Int => (Lit.int .u64 n).wf = true) x.f0 ∧ (fun n : Int => (Lit.int .u64 n).wf = true) x.f1 ∧ (fun n : Int => (Lit.int .u64 n).wf = true) x.f2 ∧ (fun s : ByteArray => s.size ≤ maxLen) x.f3 ∧ (fun s : ByteArray => s.size ≤ maxLen) x.f4 ∧ (fun n : Int => (Lit.int .i64 n).wf = true) x.f5 ∧ (fun n : Int => (Lit.int .i64 n).wf = true) x.f6 ∧ (fun n : Int => (Lit.int .u64 n).wf = true) x.f7 ∧ (fun n : Int => (Lit.int .u64 n).wf = true) x.f8 ∧ (fun l : List (S63) => l.length ≤ maxLen ∧ ∀ x ∈ l, wf63 x) x.f9
theorem opens37 : Opens Try.prog k37 37 wf37 := ⟨by kernel_rfl, fun H enc w fuel cs x h => by
  obtain ⟨xs, n, _, _, hl, hxl, hf⟩ := DataW.trod_struct Try.underlying37 h
  have hn : xs.length = 10 := hxl.trans (by decide)
  rw [show Try.prog.cellsOf 37 = 10 from by kernel_rfl] at hl
  obtain ⟨a0, h0, w0⟩ := opens_field (o := 0) (i := 0) (opens_int Try.underlying22 (by kernel_rfl)) (by rw [hn]; decide) (hf 0 _ rfl)
  obtain ⟨a1, h1, w1⟩ := opens_field (o := 1) (i := 1) (opens_int Try.underlying22 (by kernel_rfl)) (by rw [hn]; decide) (hf 1 _ rfl)
  obtain ⟨a2, h2, w2⟩ := opens_field (o := 2) (i := 2) (opens_int Try.underlying22 (by kernel_rfl)) (by rw [hn]; decide) (hf 2 _ rfl)
  obtain ⟨a3, h3, w3⟩ := opens_field (o := 3) (i := 3) (opens_string Try.underlying9 (by kernel_rfl)) (by rw [hn]; decide) (hf 3 _ rfl)
  obtain ⟨a4, h4, w4⟩ := opens_field (o := 4) (i := 4) (opens_string Try.underlying9 (by kernel_rfl)) (by rw [hn]; decide) (hf 4 _ rfl)
  obtain ⟨a5, h5, w5⟩ := opens_field (o := 5) (i := 5) (opens_int Try.underlying3 (by kernel_rfl)) (by rw [hn]; decide) (hf 5 _ rfl)
  obtain ⟨a6, h6, w6⟩ := opens_field (o := 6) (i := 6) (opens_int Try.underlying3 (by kernel_rfl)) (by rw [hn]; decide) (hf 6 _ rfl)
  obtain ⟨a7, h7, w7⟩ := opens_field (o := 7) (i := 7) (opens_int Try.underlying22 (by kernel_rfl)) (by rw [hn]; decide) (hf 7 _ rfl)
  obtain ⟨a8, h8, w8⟩ := opens_field (o := 8) (i := 8) (opens_int Try.underlying22 (by kernel_rfl)) (by rw [hn]; decide) (hf 8 _ rfl)
  obtain ⟨a9, h9, w9⟩ := opens_field (o := 9) (i := 9) (opens_slice Try.underlying35 (by kernel_rfl) opens63) (by rw [hn]; decide) (hf 9 _ rfl)
  have hK := (pair_take h0 rfl (pair_take h1 rfl (pair_take h2 rfl (pair_take h3 rfl (pair_take h4 rfl (pair_take h5 rfl (pair_take h6 rfl (pair_take h7 rfl (pair_take h8 rfl (last_take h9 hl))))))))))
  rw [List.drop_zero] at hK
  exact ⟨⟨a0, a1, a2, a3, a4, a5, a6, a7, a8, a9⟩, hK, w0, w1, w2, w3, w4, w5, w6, w7, w8, w9⟩⟩
def tallyroomlaw09_DigestPrefers.Pure2 : Prop := ∀ (l0 : List (S37)) (a1 : Int), (fun l : List (S37) => l.length ≤ maxLen ∧ ∀ x ∈ l, wf37 x) l0 → (fun n : Int => (Lit.int .u8 n).wf = true) a1 → ∃ k, tallyroomlaw09_DigestPrefers.f k l0 a1 = some true
end Go.Proofs.Ytllepjhimkogjaa.XDPr

namespace Go.Proofs.Ytllepjhimkogjaa.Pure
open Go.RowKit Go.Proofs.YtllepjhimkogjaaW.PrintWords Go.Proofs.YtllepjhimkogjaaW.PrintMore Go.Proofs.Ytllepjhimkogjaa.XDPr Go.Proofs.Ytllepjhimkogjaa.Sk
set_option linter.unusedSimpArgs false
set_option linter.unusedVariables false

def cv (x : S63) : S51 := ⟨x.f0, ⟨x.f1.f0, x.f1.f1, x.f1.f2⟩⟩
def vc (x : S51) : S63 := ⟨x.f0, ⟨x.f1.f0, x.f1.f1, x.f1.f2⟩⟩
theorem vc_cv (l : List S63) : (l.map cv).map vc = l := by
  rw [List.map_map]
  conv => rhs; rw [← List.map_id l]
  exact List.map_congr_left fun x _ => by cases x; rfl
def spn (x : S37) : Sp := ⟨x.f0, x.f1, x.f2, x.f3, x.f4, x.f5, x.f6, x.f7, x.f8, (x.f9.map cv).map span_Compare.v⟩
theorem ref_v (l : List S63) : l.map tallyroomref06_Compare.v = (l.map cv).map span_Compare.v := by
  rw [List.map_map]; rfl
theorem rd37 (l : List S37) (i : Nat) (h : i < l.length) : rd_T37 l (i : Int) = l[i] := by
  unfold rd_T37
  rw [Int.toNat_natCast, List.getD_eq_getElem?_getD, List.getElem?_eq_getElem h]; rfl
theorem rd63' (l : List S63) (i : Nat) (h : i < l.length) : rd_T63 l (i : Int) = l[i] := by
  unfold rd_T63
  rw [Int.toNat_natCast, List.getD_eq_getElem?_getD, List.getElem?_eq_getElem h]; rfl
theorem rd51' (l : List S51) (i : Nat) (h : i < l.length) : rd_T51 l (i : Int) = l[i] := by
  unfold rd_T51
  rw [Int.toNat_natCast, List.getD_eq_getElem?_getD, List.getElem?_eq_getElem h]; rfl
/-- Far answers something, and no only where there are few attributes. -/
theorem far_loop (x0 x1 x2 : Int) (x3 x4 : ByteArray) (x5 x6 x7 x8 : Int) (l : List S63) (hl : l.length ≤ 40) : ∀ (d i k : Nat), i + d = l.length → d < k → ∃ r, tallyroomlaw06_Far.l0 k (i : Int) x0 x1 x2 x3 x4 x5 x6 x7 x8 l = some r := by
  intro d
  induction d with
  | zero =>
    intro i k hi hk
    obtain ⟨k, rfl⟩ : ∃ m, k = m + 1 := ⟨k - 1, by omega⟩
    exact ⟨false, by rw [tallyroomlaw06_Far.l0, if_neg (by omega)]⟩
  | succ d ih =>
    intro i k hi hk
    obtain ⟨k, rfl⟩ : ∃ m, k = m + 1 := ⟨k - 1, by omega⟩
    rw [tallyroomlaw06_Far.l0, if_pos (by omega), if_pos (by omega)]
    split
    · exact ⟨_, rfl⟩
    · split
      · exact ⟨_, rfl⟩
      · rw [IntWalk.wrap64_in _ (by omega), show (i : Int) + 1 = ((i + 1 : Nat) : Int) by omega]
        exact ih (i + 1) k (by omega) (by omega)
theorem far_f (x : S37) (k : Nat) (hk : 50 < k) : ∃ r, tallyroomlaw06_Far.f k x.f0 x.f1 x.f2 x.f3 x.f4 x.f5 x.f6 x.f7 x.f8 x.f9 = some r ∧ (r = false → x.f9.length ≤ 40) := by
  obtain ⟨k, rfl⟩ : ∃ m, k = m + 1 := ⟨k - 1, by omega⟩
  unfold tallyroomlaw06_Far.f
  split
  · exact ⟨true, by rw [tallyroomlaw06_Far.j0, if_pos rfl], fun h => by cases h⟩
  · split
    · exact ⟨true, by rw [tallyroomlaw06_Far.j0, if_pos rfl], fun h => by cases h⟩
    · by_cases h : (x.f9.length : Int) > 40
      · exact ⟨true, by rw [tallyroomlaw06_Far.j0, decide_eq_true h, if_pos rfl], fun h => by cases h⟩
      · obtain ⟨r, hr⟩ := far_loop x.f0 x.f1 x.f2 x.f3 x.f4 x.f5 x.f6 x.f7 x.f8 x.f9 (by omega) x.f9.length 0 k (by omega) (by omega)
        exact ⟨r, by rw [tallyroomlaw06_Far.j0, decide_eq_false h, if_neg (by decide)]; exact hr, fun _ => by omega⟩
theorem of_loop (x0 x1 x2 : Int) (x3 x4 : ByteArray) (x5 x6 x7 x8 : Int) (l : List S63) (hl : l.length ≤ 40) : ∀ (d i k : Nat), i + d = l.length → d < k →
    tallyroomlaw06_Of.l0 k (i : Int) x0 x1 x2 x3 x4 x5 x6 x7 x8 l x0 x1 x2 x3 x4 x5 x6 x7 x8 ((l.take i).map cv) = some (x0, x1, x2, x3, x4, x5, x6, x7, x8, l.map cv) := by
  intro d
  induction d with
  | zero =>
    intro i k hi hk
    obtain ⟨k, rfl⟩ : ∃ m, k = m + 1 := ⟨k - 1, by omega⟩
    rw [tallyroomlaw06_Of.l0, if_neg (by omega), List.take_of_length_le (by omega)]
  | succ d ih =>
    intro i k hi hk
    obtain ⟨k, rfl⟩ : ∃ m, k = m + 1 := ⟨k - 1, by omega⟩
    have hlt : i < l.length := by omega
    rw [tallyroomlaw06_Of.l0, if_pos (by omega), if_pos (by omega), if_pos (by rw [List.length_map, List.length_take]; omega), rd63' l i hlt, IntWalk.wrap64_in _ (by omega), show (i : Int) + 1 = ((i + 1 : Nat) : Int) by omega]
    have := ih (i + 1) k (by omega) (by omega)
    rw [List.take_succ_eq_append_getElem hlt, List.map_append] at this
    exact this
theorem of_f (x : S37) (k : Nat) (hk : 50 < k) (hx : x.f9.length ≤ 40) : tallyroomlaw06_Of.f k x.f0 x.f1 x.f2 x.f3 x.f4 x.f5 x.f6 x.f7 x.f8 x.f9 = some (x.f0, x.f1, x.f2, x.f3, x.f4, x.f5, x.f6, x.f7, x.f8, x.f9.map cv) :=
  of_loop x.f0 x.f1 x.f2 x.f3 x.f4 x.f5 x.f6 x.f7 x.f8 x.f9 hx x.f9.length 0 k (by omega) (by omega)
theorem to_loop (x0 x1 x2 : Int) (x3 x4 : ByteArray) (x5 x6 x7 x8 : Int) (l : List S51) (hl : l.length ≤ 40) : ∀ (d i k : Nat), i + d = l.length → d < k →
    tallyroomlaw06_To.l0 k (i : Int) x0 x1 x2 x3 x4 x5 x6 x7 x8 l x0 x1 x2 x3 x4 x5 x6 x7 x8 ((l.take i).map vc) = some (x0, x1, x2, x3, x4, x5, x6, x7, x8, l.map vc) := by
  intro d
  induction d with
  | zero =>
    intro i k hi hk
    obtain ⟨k, rfl⟩ : ∃ m, k = m + 1 := ⟨k - 1, by omega⟩
    rw [tallyroomlaw06_To.l0, if_neg (by omega), List.take_of_length_le (by omega)]
  | succ d ih =>
    intro i k hi hk
    obtain ⟨k, rfl⟩ : ∃ m, k = m + 1 := ⟨k - 1, by omega⟩
    have hlt : i < l.length := by omega
    rw [tallyroomlaw06_To.l0, if_pos (by omega), if_pos (by omega), if_pos (by rw [List.length_map, List.length_take]; omega), rd51' l i hlt, IntWalk.wrap64_in _ (by omega), show (i : Int) + 1 = ((i + 1 : Nat) : Int) by omega]
    have := ih (i + 1) k (by omega) (by omega)
    rw [List.take_succ_eq_append_getElem hlt, List.map_append] at this
    exact this
theorem to_f (x : S37) (k : Nat) (hk : 50 < k) (hx : x.f9.length ≤ 40) : tallyroomlaw06_To.f k x.f0 x.f1 x.f2 x.f3 x.f4 x.f5 x.f6 x.f7 x.f8 (x.f9.map cv) = some (x.f0, x.f1, x.f2, x.f3, x.f4, x.f5, x.f6, x.f7, x.f8, x.f9) := by
  have := to_loop x.f0 x.f1 x.f2 x.f3 x.f4 x.f5 x.f6 x.f7 x.f8 (x.f9.map cv) (by rw [List.length_map]; exact hx) (x.f9.map cv).length 0 k (by omega) (by rw [List.length_map]; omega)
  rw [vc_cv] at this
  exact this
theorem cmp_f (x y : S37) (hx : x.f9.length ≤ 40) (hy : y.f9.length ≤ 40) : tallyroomref06_Compare.f x.f0 x.f1 x.f2 x.f3 x.f4 x.f5 x.f6 x.f7 x.f8 x.f9 y.f0 y.f1 y.f2 y.f3 y.f4 y.f5 y.f6 y.f7 y.f8 y.f9 = some (cmpS (spn x) (spn y)) := by
  unfold tallyroomref06_Compare.f
  rw [if_pos ⟨by omega, by omega⟩, ref_v, ref_v]; rfl
/-- The preferred one. -/
def pref (x y : S37) : S37 := if cmpS (spn x) (spn y) > 0 then y else x
theorem pref_f (x y : S37) (hx : x.f9.length ≤ 40) (hy : y.f9.length ≤ 40) : digest_Prefer.f x.f0 x.f1 x.f2 x.f3 x.f4 x.f5 x.f6 x.f7 x.f8 (x.f9.map cv) y.f0 y.f1 y.f2 y.f3 y.f4 y.f5 y.f6 y.f7 y.f8 (y.f9.map cv) =
    some ((pref x y).f0, (pref x y).f1, (pref x y).f2, (pref x y).f3, (pref x y).f4, (pref x y).f5, (pref x y).f6, (pref x y).f7, (pref x y).f8, (pref x y).f9.map cv) := by
  unfold digest_Prefer.f span_Compare.f
  rw [if_pos ⟨by rw [List.length_map]; omega, by rw [List.length_map]; omega⟩, Option.bind_some]
  show (if cmpS (spn x) (spn y) > 0 then _ else _) = _
  unfold pref
  split <;> rfl
theorem pref_mem {l : List S37} {x y : S37} (hx : x ∈ l) (hy : y ∈ l) : pref x y ∈ l := by unfold pref; split <;> assumption
theorem pref_le1 (x y : S37) : cmpS (spn (pref x y)) (spn x) ≤ 0 := by
  unfold pref
  split
  · have := cmpS_cmp.swap (spn x) (spn y); omega
  · have := cmpS_cmp.self (spn x); omega
theorem pref_le2 (x y : S37) : cmpS (spn (pref x y)) (spn y) ≤ 0 := by
  unfold pref
  split
  · have := cmpS_cmp.self (spn y); omega
  · omega
theorem idx (n kk i : Nat) (hn : n ≤ 12) (hk : kk < n) (hi : i < n) : Int.tmod (wrap64 ((wrap64 ((wrap64 ((n : Int) - 1)) - (i : Int))) + (kk : Int))) (n : Int) = (((n - 1 - i + kk) % n : Nat) : Int) := by
  rw [IntWalk.wrap64_in ((n : Int) - 1) (by omega), IntWalk.wrap64_in ((n : Int) - 1 - (i : Int)) (by omega), IntWalk.wrap64_in _ (by omega), show (n : Int) - 1 - (i : Int) + (kk : Int) = ((n - 1 - i + kk : Nat) : Int) by omega]
  rfl
section
variable (l : List S37) (hl : l.length ≤ 12) (hfew : ∀ x ∈ l, x.f9.length ≤ 40)
include hl hfew
theorem l2_loop (a : S37) (ha : a ∈ l) (hmin : ∀ x ∈ l, cmpS (spn a) (spn x) ≤ 0) (p : Nat) (hp : p < l.length) (hap : l[p] = a) : ∀ (d i k : Nat) (b : Bool), i + d = l.length → d + 60 < k → (b = true ∨ i ≤ p) →
    tallyroomlaw09_DigestPrefers.l2 k l b (i : Int) a.f0 a.f1 a.f2 a.f3 a.f4 a.f5 a.f6 a.f7 a.f8 (a.f9.map cv) = some true := by
  intro d
  induction d with
  | zero =>
    intro i k b hi hk hb
    obtain ⟨k, rfl⟩ : ∃ m, k = m + 1 := ⟨k - 1, by omega⟩
    obtain rfl : b = true := by rcases hb with h | h; exact h; omega
    rw [tallyroomlaw09_DigestPrefers.l2, if_neg (by omega)]
  | succ d ih =>
    intro i k b hi hk hb
    obtain ⟨k, rfl⟩ : ∃ m, k = m + 1 := ⟨k - 1, by omega⟩
    have hlt : i < l.length := by omega
    have hm := List.getElem_mem hlt
    have h0 := hmin _ hm
    have hsw := cmpS_cmp.swap (spn a) (spn l[i])
    rw [tallyroomlaw09_DigestPrefers.l2, if_pos (by omega), if_pos (by omega), to_f a k (by omega) (hfew a ha), Option.bind_some, rd37 l i hlt]
    rw [cmp_f l[i] a (hfew _ hm) (hfew a ha), Option.bind_some, IntWalk.wrap64_in _ (by omega), show (i : Int) + 1 = ((i + 1 : Nat) : Int) by omega]
    rcases Bool.eq_false_or_eq_true b with e | e
    · subst e
      rw [if_pos rfl, if_neg (by omega)]
      exact ih (i + 1) k true (by omega) (by omega) (Or.inl rfl)
    · subst e
      rw [if_neg (by decide), if_neg (by omega)]
      refine ih (i + 1) k _ (by omega) (by omega) ?_
      by_cases hip : i = p
      · refine Or.inl ?_
        subst hip
        rw [hap, cmpS_cmp.self]; rfl
      · rcases hb with h | h
        · cases h
        · exact Or.inr (by omega)
theorem l1_loop (kk : Nat) (hkk : kk < l.length) : ∀ (d i k : Nat) (a b : S37), i + d = l.length → d + 120 < k → a ∈ l → b ∈ l → (∀ j, j < i → ∀ h : j < l.length, cmpS (spn a) (spn l[j]) ≤ 0) → (∀ j, j < i → ∀ h : (l.length - 1 - j + kk) % l.length < l.length, cmpS (spn b) (spn l[(l.length - 1 - j + kk) % l.length]) ≤ 0) →
    tallyroomlaw09_DigestPrefers.l1 k l (kk : Int) (i : Int) a.f0 a.f1 a.f2 a.f3 a.f4 a.f5 a.f6 a.f7 a.f8 (a.f9.map cv) b.f0 b.f1 b.f2 b.f3 b.f4 b.f5 b.f6 b.f7 b.f8 (b.f9.map cv) = some true := by
  intro d
  induction d with
  | zero =>
    intro i k a b hi hk ha hb h1 h2
    obtain ⟨k, rfl⟩ : ∃ m, k = m + 1 := ⟨k - 1, by omega⟩
    have ma : ∀ x ∈ l, cmpS (spn a) (spn x) ≤ 0 := fun x hx => by
      obtain ⟨j, hj, rfl⟩ := List.getElem_of_mem hx
      exact h1 j (by omega) hj
    have mb : ∀ x ∈ l, cmpS (spn b) (spn x) ≤ 0 := fun x hx => by
      obtain ⟨t, ht, rfl⟩ := List.getElem_of_mem hx
      have hjl : (l.length - 1 + kk - t) % l.length < l.length := Nat.mod_lt _ (by omega)
      have e : (l.length - 1 - (l.length - 1 + kk - t) % l.length + kk) % l.length = t := by
        have hd := Nat.div_add_mod (l.length - 1 + kk - t) l.length
        generalize (l.length - 1 + kk - t) % l.length = j at *
        have e2 : l.length - 1 - j + kk = t + l.length * ((l.length - 1 + kk - t) / l.length) := by omega
        rw [e2, Nat.add_mul_mod_self_left, Nat.mod_eq_of_lt ht]
      have := h2 ((l.length - 1 + kk - t) % l.length) (by omega) (by rw [e]; exact ht)
      simpa only [e] using this
    have hab : cmpS (spn a) (spn b) = 0 := by
      have := ma b hb; have := mb a ha; have := cmpS_cmp.swap (spn a) (spn b); omega
    obtain ⟨p, hp, hap⟩ := List.getElem_of_mem ha
    rw [tallyroomlaw09_DigestPrefers.l1, if_neg (by omega), to_f a k (by omega) (hfew a ha), Option.bind_some, to_f b k (by omega) (hfew b hb), Option.bind_some]
    unfold tallyroomref06_Same.f
    rw [cmp_f a b (hfew a ha) (hfew b hb), hab, Option.bind_some, Option.bind_some, if_pos (by rfl)]
    exact l2_loop l hl hfew a ha ma p hp hap l.length 0 k false (by omega) (by omega) (Or.inr (by omega))
  | succ d ih =>
    intro i k a b hi hk ha hb h1 h2
    obtain ⟨k, rfl⟩ : ∃ m, k = m + 1 := ⟨k - 1, by omega⟩
    have hlt : i < l.length := by omega
    have hm := List.getElem_mem hlt
    have hql : (l.length - 1 - i + kk) % l.length < l.length := Nat.mod_lt _ (by omega)
    have hqm := List.getElem_mem hql
    rw [tallyroomlaw09_DigestPrefers.l1, if_pos (by omega), if_pos (by omega), rd37 l i hlt, of_f l[i] k (by omega) (hfew _ hm), Option.bind_some, pref_f a l[i] (hfew a ha) (hfew _ hm), Option.bind_some, if_neg (by omega), idx l.length kk i hl hkk hlt, if_pos (by omega), if_pos (by omega), rd37 l _ hql, of_f _ k (by omega) (hfew _ hqm), Option.bind_some, pref_f _ b (hfew _ hqm) (hfew b hb), Option.bind_some, IntWalk.wrap64_in _ (by omega), show (i : Int) + 1 = ((i + 1 : Nat) : Int) by omega]
    refine ih (i + 1) k (pref a l[i]) (pref l[(l.length - 1 - i + kk) % l.length] b) (by omega) (by omega) (pref_mem ha hm) (pref_mem hqm hb) ?_ ?_
    · intro j hj hjl
      by_cases e : j = i
      · subst e; exact pref_le2 _ _
      · exact cmpS_cmp.le_trans (pref_le1 _ _) (h1 j (by omega) hjl)
    · intro j hj hjl
      by_cases e : j = i
      · subst e; exact pref_le1 _ _
      · exact cmpS_cmp.le_trans (pref_le2 _ _) (h2 j (by omega) hjl)
theorem l0_end (by_ : Int) (hby : 0 ≤ by_ ∧ by_ ≤ 255) (hne : 0 < l.length) (k : Nat) (hk : 200 < k) : tallyroomlaw09_DigestPrefers.l0 k l by_ (l.length : Int) = some true := by
  obtain ⟨k, rfl⟩ : ∃ m, k = m + 1 := ⟨k - 1, by omega⟩
  obtain ⟨y, rfl⟩ : ∃ y : Nat, by_ = (y : Int) := ⟨by_.toNat, by omega⟩
  have hy : y % l.length < l.length := Nat.mod_lt _ hne
  have e : Int.tmod (wrap64 (y : Int)) (l.length : Int) = ((y % l.length : Nat) : Int) := by
    rw [IntWalk.wrap64_in _ (by omega)]; rfl
  have h0 := List.getElem_mem hne
  have h1 := List.getElem_mem hy
  have r0 := rd37 l 0 hne
  rw [tallyroomlaw09_DigestPrefers.l0, if_neg (by omega), if_pos (by omega), show (0 : Int) = ((0 : Nat) : Int) from rfl, r0, of_f _ k (by omega) (hfew _ h0), Option.bind_some, if_neg (by omega), e, if_pos (by omega), if_pos (by omega), rd37 l _ hy, of_f _ k (by omega) (hfew _ h1), Option.bind_some]
  exact l1_loop l hl hfew (y % l.length) hy l.length 0 k l[0] l[y % l.length] (by omega) (by omega) h0 h1 (fun j hj => by omega) (fun j hj => by omega)
end
theorem l0_loop (l : List S37) (hl : l.length ≤ 12) (hne : 0 < l.length) (by_ : Int) (hby : 0 ≤ by_ ∧ by_ ≤ 255) : ∀ (d i k : Nat), i + d = l.length → d + 300 < k → (∀ j, j < i → ∀ h : j < l.length, (l[j]).f9.length ≤ 40) → tallyroomlaw09_DigestPrefers.l0 k l by_ (i : Int) = some true := by
  intro d
  induction d with
  | zero =>
    intro i k hi hk hf
    obtain rfl : i = l.length := by omega
    exact l0_end l hl (fun x hx => by obtain ⟨j, hj, rfl⟩ := List.getElem_of_mem hx; exact hf j hj hj) by_ hby hne k (by omega)
  | succ d ih =>
    intro i k hi hk hf
    obtain ⟨k, rfl⟩ : ∃ m, k = m + 1 := ⟨k - 1, by omega⟩
    have hlt : i < l.length := by omega
    obtain ⟨r, hr, hfew⟩ := far_f l[i] k (by omega)
    rw [tallyroomlaw09_DigestPrefers.l0, if_pos (by omega), if_pos (by omega), rd37 l i hlt, hr, Option.bind_some]
    cases r with
    | true => rw [if_pos rfl]
    | false =>
      rw [if_neg (by decide), IntWalk.wrap64_in _ (by omega), show (i : Int) + 1 = ((i + 1 : Nat) : Int) by omega]
      exact ih (i + 1) k (by omega) (by omega) (fun j hj hjl => by
        by_cases e : j = i
        · subst e; exact hfew rfl
        · exact hf j (by omega) hjl)
theorem u8_wf' {x : Int} (h : (Lit.int .u8 x).wf = true) : 0 ≤ x ∧ x ≤ 255 := by
  simpa [Lit.wf, IntKind.min, IntKind.max, IntKind.signed, IntKind.bits] using h
theorem DigestPrefers : tallyroomlaw09_DigestPrefers.Pure2 := by
  intro l by_ hl hby
  refine ⟨1000, ?_⟩
  unfold tallyroomlaw09_DigestPrefers.f
  rw [show tallyroomlaw09_alive.f = some true from rfl, Option.bind_some, if_pos rfl]
  by_cases h : (l.length : Int) > 12
  · rw [if_pos h, show (1000 : Nat) = 999 + 1 from rfl, tallyroomlaw09_DigestPrefers.j0, if_pos rfl]
  · rw [if_neg h, show (1000 : Nat) = 999 + 1 from rfl, tallyroomlaw09_DigestPrefers.j0]
    by_cases h0 : l.length = 0
    · rw [if_pos (by simp [h0])]
    · rw [if_neg (by simp; intro e; exact h0 (by rw [e]; rfl))]
      exact l0_loop l (by omega) (by omega) by_ (u8_wf' hby) l.length 0 999 (by omega) (by omega) (fun j hj => by omega)
end Go.Proofs.Ytllepjhimkogjaa.Pure
