/- Policies as trees, how they stand in memory, and what is asked of them, in plain words. No conditions. -/
import Derived.Test.YtgpkihnihmbomaaBx
import Derived.Test.YtgpkihnihmbomaaXSsx0
namespace Go.Proofs.Ytgpkihnihmbomaa.Pt
open Go.RowKit Go.Proofs.YtgpkihnihmbomaaW.PrintWords Go.Proofs.YtgpkihnihmbomaaW.PrintLast
open Go.Proofs.Ytgpkihnihmbomaa.Ob Go.Proofs.Ytgpkihnihmbomaa.Two Go.Proofs.Ytgpkihnihmbomaa.Bx
set_option linter.unusedSimpArgs false
set_option linter.unusedVariables false
/-- A policy. -/
structure Pol where
  op : ByteArray
  key : ByteArray
  vk : Int
  vn : Int
  vs : ByteArray
  n : Int
  kids : List Pol
/-- What nothing is of. -/
def kNone : Kd Pol where
  sz := 7
  E := []
  K := fun _ _ _ => False
  M := fun _ _ _ _ _ => False
  K_len := fun h => h.elim
  K_one := fun h => h.elim
  K_below := fun _ h => h
  K_of_M := fun h => h
  M_mono := fun _ h => h
  M_bound := fun h => h.elim
  M_move := fun _ h => h
  M_lower := fun _ h => h
def kpn (e : Nat) (d : Kd Pol) : Kd Pol := Kd.iso (Kd.pair Kd.string (Kd.pair Kd.string (Kd.pair (Kd.int .i64) (Kd.pair (Kd.int .i64) (Kd.pair Kd.string (Kd.pair (Kd.int .u64) (Kd.slice e d))))))) (fun x : Pol => (x.op, x.key, x.vk, x.vn, x.vs, x.n, x.kids))
/-- How a policy of less than so many levels stands in memory: of type 43 (the document's) or 53 (the program's). -/
def kp (e : Nat) : Nat → Kd Pol
  | 0 => kNone
  | d + 1 => kpn e (kp e d)
theorem kp_sz (e : Nat) : ∀ d, (kp e d).sz = 7
  | 0 => rfl
  | d + 1 => rfl
theorem kp_E (e : Nat) : ∀ d, ∀ q ∈ (kp e d).E, q = e
  | 0, q, h => by cases h
  | d + 1, q, h => by
    have h : q ∈ e :: (kp e d).E := by simpa [kp, kpn, Kd.iso, Kd.pair, Kd.string, Kd.int, Kd.scalar, Kd.slice] using h
    rcases List.mem_cons.1 h with h | h
    · exact h
    · exact kp_E e d q h
theorem kp_open {e d : Nat} {w : World} {x : Pol} {cs : List Value} (h : (kp e (d + 1)).K w x cs) : ∃ A c, cs = [.string x.op, .string x.key, .int .i64 x.vk, .int .i64 x.vn, .string x.vs, .int .u64 x.n, .slice A x.kids.length c] ∧ x.kids.length ≤ c ∧ (kp e d).C w A x.kids.length x.kids := by
  obtain ⟨_, _, rfl, rfl, ⟨_, _, rfl, rfl, ⟨_, _, rfl, rfl, ⟨_, _, rfl, rfl, ⟨_, _, rfl, rfl, ⟨_, _, rfl, rfl, ⟨A, c, rfl, l, g⟩⟩⟩⟩⟩⟩⟩ := h
  exact ⟨A, c, rfl, l, g⟩
theorem kp_mk {e d : Nat} (w : World) (x : Pol) {A : Option Addr} {c : Nat} (l : x.kids.length ≤ c) (g : (kp e d).C w A x.kids.length x.kids) : (kp e (d + 1)).K w x [.string x.op, .string x.key, .int .i64 x.vk, .int .i64 x.vn, .string x.vs, .int .u64 x.n, .slice A x.kids.length c] :=
  ⟨[.string x.op], [.string x.key, .int .i64 x.vk, .int .i64 x.vn, .string x.vs, .int .u64 x.n, .slice A x.kids.length c], rfl, rfl, ⟨[.string x.key], [.int .i64 x.vk, .int .i64 x.vn, .string x.vs, .int .u64 x.n, .slice A x.kids.length c], rfl, rfl, ⟨[.int .i64 x.vk], [.int .i64 x.vn, .string x.vs, .int .u64 x.n, .slice A x.kids.length c], rfl, rfl, ⟨[.int .i64 x.vn], [.string x.vs, .int .u64 x.n, .slice A x.kids.length c], rfl, rfl, ⟨[.string x.vs], [.int .u64 x.n, .slice A x.kids.length c], rfl, rfl, ⟨[.int .u64 x.n], [.slice A x.kids.length c], rfl, rfl, ⟨A, c, rfl, l, g⟩⟩⟩⟩⟩⟩⟩
theorem kp_mkM {e d : Nat} (w : World) (base : Nat) (ok : Nat → Prop) (x : Pol) {v : Value} (g : (kp e d).R e w base ok v x.kids) : (kp e (d + 1)).M w base ok x [.string x.op, .string x.key, .int .i64 x.vk, .int .i64 x.vn, .string x.vs, .int .u64 x.n, v] :=
  ⟨[.string x.op], [.string x.key, .int .i64 x.vk, .int .i64 x.vn, .string x.vs, .int .u64 x.n, v], rfl, rfl, ⟨[.string x.key], [.int .i64 x.vk, .int .i64 x.vn, .string x.vs, .int .u64 x.n, v], rfl, rfl, ⟨[.int .i64 x.vk], [.int .i64 x.vn, .string x.vs, .int .u64 x.n, v], rfl, rfl, ⟨[.int .i64 x.vn], [.string x.vs, .int .u64 x.n, v], rfl, rfl, ⟨[.string x.vs], [.int .u64 x.n, v], rfl, rfl, ⟨[.int .u64 x.n], [v], rfl, rfl, ⟨v, rfl, g⟩⟩⟩⟩⟩⟩⟩
/-- A kid read. -/
theorem kp_at {e d : Nat} {w : World} {A : Option Addr} {n : Nat} {xs : List Pol} (h : (kp e (d + 1)).C w A n xs) (i : Nat) (hi : i < xs.length) (hn : i < n) : ∃ ad A6 c6, A = some ad ∧ w.cell? (ad.add (i * 7)) = some (.string (xs[i]).op) ∧ w.cell? ⟨(ad.add (i * 7)).block, (ad.add (i * 7)).off + 1, none⟩ = some (.string (xs[i]).key) ∧ w.cell? ⟨(ad.add (i * 7)).block, (ad.add (i * 7)).off + 2, none⟩ = some (.int .i64 (xs[i]).vk) ∧ w.cell? ⟨(ad.add (i * 7)).block, (ad.add (i * 7)).off + 3, none⟩ = some (.int .i64 (xs[i]).vn) ∧ w.cell? ⟨(ad.add (i * 7)).block, (ad.add (i * 7)).off + 4, none⟩ = some (.string (xs[i]).vs) ∧ w.cell? ⟨(ad.add (i * 7)).block, (ad.add (i * 7)).off + 5, none⟩ = some (.int .u64 (xs[i]).n) ∧ w.cell? ⟨(ad.add (i * 7)).block, (ad.add (i * 7)).off + 6, none⟩ = some (.slice A6 (xs[i]).kids.length c6) ∧ (xs[i]).kids.length ≤ c6 ∧ (kp e d).C w A6 (xs[i]).kids.length (xs[i]).kids := by
  obtain ⟨ad, c, e1, _, hK, hc0⟩ := Kd.C_get h (xs[i]) (i : Int) (by omega) (by omega)
  have hc : ∀ j u, c[j]? = some u → w.cell? (ad.add (i * 7 + j)) = some u := by
    intro j u hu
    have := hc0 j u hu
    rwa [kp_sz, Int.toNat_natCast] at this
  rw [Int.toNat_natCast, List.getD_eq_getElem?_getD, List.getElem?_eq_getElem hi] at hK
  obtain ⟨A6, c6, rfl, l6, g6⟩ := kp_open hK
  exact ⟨ad, A6, c6, e1, hc 0 _ rfl, by rw [← add_field _ _ 1 (by omega)]; exact hc 1 _ rfl, by rw [← add_field _ _ 2 (by omega)]; exact hc 2 _ rfl, by rw [← add_field _ _ 3 (by omega)]; exact hc 3 _ rfl, by rw [← add_field _ _ 4 (by omega)]; exact hc 4 _ rfl, by rw [← add_field _ _ 5 (by omega)]; exact hc 5 _ rfl, by rw [← add_field _ _ 6 (by omega)]; exact hc 6 _ rfl, l6, g6⟩
/-! ### how many, how deep -/
def sz : Nat → Pol → Nat
  | 0, _ => 0
  | d + 1, p => 1 + (p.kids.map (sz d)).sum
def dp : Nat → Pol → Nat
  | 0, _ => 0
  | d + 1, p => 1 + (p.kids.map (dp d)).foldl max 0
theorem kp_no {e : Nat} {w : World} {x : Pol} {cs : List Value} (h : (kp e 0).K w x cs) : False := h
theorem kp_none {e n : Nat} {w : World} {A : Option Addr} {xs : List Pol} (h : (kp e 0).C w A n xs) : xs = [] := by
  cases xs with
  | nil => rfl
  | cons a r =>
    have h1 := h.1
    obtain ⟨ad, _, hj⟩ := h.2.2 (by rw [← h1]; simp)
    obtain ⟨cs, _, hK, _⟩ := hj 0 a rfl
    exact hK.elim
theorem foldl_max (l : List Nat) (a : Nat) : l.foldl max a = max a (l.foldl max 0) := by
  induction l generalizing a with
  | nil => simp
  | cons b r ih => rw [List.foldl_cons, List.foldl_cons, ih, ih (max 0 b)]; omega
theorem max_le (l : List Nat) (x : Nat) (h : x ∈ l) : x ≤ l.foldl max 0 := by
  induction l with
  | nil => cases h
  | cons b r ih =>
    rw [List.foldl_cons, foldl_max]
    rcases List.mem_cons.1 h with rfl | h
    · omega
    · have := ih h; omega
theorem le_sum (l : List Nat) (x : Nat) (h : x ∈ l) : x ≤ l.sum := by
  induction l with
  | nil => cases h
  | cons b r ih =>
    rw [List.sum_cons]
    rcases List.mem_cons.1 h with rfl | h
    · omega
    · have := ih h; omega
theorem sum_take_le (l : List Nat) (j : Nat) : (l.take j).sum ≤ l.sum := by
  induction l generalizing j with
  | nil => simp
  | cons b r ih =>
    rcases j with _ | j
    · simp
    · rw [List.take_succ_cons, List.sum_cons, List.sum_cons]; have := ih j; omega
theorem max_take_le (l : List Nat) (j : Nat) : (l.take j).foldl max 0 ≤ l.foldl max 0 := by
  induction l generalizing j with
  | nil => simp
  | cons b r ih =>
    rcases j with _ | j
    · simp
    · rw [List.take_succ_cons, List.foldl_cons, List.foldl_cons, foldl_max, foldl_max r]; have := ih j; omega
theorem sum_take_succ (l : List Nat) (j : Nat) (h : j < l.length) : (l.take (j + 1)).sum = (l.take j).sum + l[j] := by
  rw [List.take_succ_eq_append_getElem h, List.sum_append, List.sum_singleton]
theorem max_take_succ (l : List Nat) (j : Nat) (h : j < l.length) : (l.take (j + 1)).foldl max 0 = max ((l.take j).foldl max 0) l[j] := by
  rw [List.take_succ_eq_append_getElem h, List.foldl_append, List.foldl_cons, List.foldl_nil]
/-- May it be, by how many and how deep? -/
def szok (d : Nat) (p : Pol) (dep : Nat) : Bool := decide (dp d p + dep ≤ 9 ∧ sz d p ≤ 64)
end Go.Proofs.Ytgpkihnihmbomaa.Pt
