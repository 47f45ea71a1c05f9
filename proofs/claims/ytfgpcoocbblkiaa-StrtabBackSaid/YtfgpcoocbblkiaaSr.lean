/- Reading a table: what both readers come to, in plain words; the walk of Read. No conditions but bounds. -/
import Derived.Test.YtfgpcoocbblkiaaSy
import Derived.Test.YtfgpcoocbblkiaaXSvx18
import Derived.Test.YtfgpcoocbblkiaaXSvx21
namespace Go.Proofs.Ytfgpcoocbblkiaa.St
open Go.RowKit Go.Maps Go.ChangeMaps Go.MapKept Go.Proofs.YtfgpcoocbblkiaaW.PrintWords Go.Proofs.YtfgpcoocbblkiaaW.PrintLast
open Go.Proofs.Ytfgpcoocbblkiaa.Ob Go.Proofs.Ytfgpcoocbblkiaa.XSv Go.Proofs.Ytfgpcoocbblkiaa.Var
set_option linter.unusedSimpArgs false
set_option linter.unusedVariables false

theorem vg_used : ∀ (l : List Nat) (i acc : Nat), (vg i acc l).2.2 = 0 → (vg i acc l).2.1 ≤ i + l.length
  | [], i, acc, h => by simp [vg] at h
  | c :: l, i, acc, h => by
    have e : vg i acc (c :: l) = if 10 ≤ i ∨ (i = 9 ∧ 1 < c % 128) then (0, 0, 11) else if c < 128 then (if c = 0 ∧ 0 < i then (0, 0, 11) else (acc + c % 128 * 128 ^ i, i + 1, 0)) else vg (i + 1) (acc + c % 128 * 128 ^ i) l := by rw [vg]
    rw [e] at h ⊢
    by_cases h1 : 10 ≤ i ∨ (i = 9 ∧ 1 < c % 128)
    · rw [if_pos h1] at h; simp at h
    · rw [if_neg h1] at h ⊢
      by_cases h2 : c < 128
      · rw [if_pos h2] at h ⊢
        by_cases h3 : c = 0 ∧ 0 < i
        · rw [if_pos h3] at h; simp at h
        · rw [if_neg h3]; simp
      · rw [if_neg h2] at h ⊢
        have := vg_used l (i + 1) _ h
        rw [List.length_cons]; omega
theorem vget_used (l : List Nat) (h : (vget l).2.2 = 0) : (vget l).2.1 ≤ l.length := by
  have := vg_used l 0 0 h
  simpa [vget] using this
/-- One text, as it is read. -/
def oneN (l : List Nat) : ByteArray × Nat × Nat :=
  if (vget l).2.2 ≠ 0 then (⟨#[]⟩, 0, (vget l).2.2) else if 4096 < (vget l).1 then (⟨#[]⟩, 0, 11) else if l.length - (vget l).2.1 < (vget l).1 then (⟨#[]⟩, 0, 10)
  else (strOfNums (ofN ((l.take ((vget l).2.1 + (vget l).1)).drop (vget l).2.1)), (vget l).2.1 + (vget l).1, 0)
def ofS (r : ByteArray × Nat × Nat) : ByteArray × Int × Int := (r.1, (r.2.1 : Int), (r.2.2 : Int))
theorem one_f (l : List Nat) (hw : ∀ n ∈ l, n ≤ 255) (hl : l.length ≤ 1000000) (k : Nat) (hk : 2 * l.length + 1 < k) : strtab_one.f k (ofN l) = some (ofS (oneN l)) := by
  unfold strtab_one.f oneN
  rw [get l hw (by omega) k hk]
  have hu := vget_used l
  generalize vget l = g at hu ⊢
  obtain ⟨n, p, e⟩ := g
  simp only at hu ⊢
  simp only [Option.bind_some, ofT]
  by_cases he : e = 0
  · subst he
    have hu := hu rfl
    rw [if_pos (by rfl), if_neg (by simp : ¬ (0 : Nat) ≠ 0)]
    by_cases h1 : 4096 < n
    · rw [if_pos (by omega), if_pos h1]; rfl
    · have w1 : wrap64 (n : Int) = (n : Int) := IntWalk.wrap64_in _ (by omega)
      have w2 : wrap64 (((ofN l).length : Int) - (p : Int)) = ((l.length - p : Nat) : Int) := by rw [ofN_length, IntWalk.wrap64_in _ (by omega)]; omega
      have w3 : wrap64 ((p : Int) + (n : Int)) = ((p + n : Nat) : Int) := by rw [IntWalk.wrap64_in _ (by omega)]; omega
      rw [if_neg (by omega), if_neg h1, w1, w2, w3]
      by_cases h2 : l.length - p < n
      · rw [if_pos (by omega), if_pos h2]; rfl
      · rw [if_neg (by omega), if_neg h2, if_pos (by omega), if_pos (by omega), if_pos (by rw [ofN_length]; omega), Int.toNat_natCast, Int.toNat_natCast, ofN_take, ofN_drop]
        rfl
  · rw [if_neg (by omega), if_pos (by simpa using he)]
    rfl
theorem one_used (l : List Nat) (h : (oneN l).2.2 = 0) : (oneN l).2.1 ≤ l.length ∧ (oneN l).1.size ≤ 4096 := by
  have hu := vget_used l
  unfold oneN at h ⊢
  generalize vget l = g at hu h ⊢
  obtain ⟨n, p, e⟩ := g
  simp only at hu h ⊢
  by_cases he : e = 0
  · subst he
    have hu := hu rfl
    rw [if_neg (by simp : ¬ (0 : Nat) ≠ 0)] at h ⊢
    by_cases h1 : 4096 < n
    · rw [if_pos h1] at h; simp at h
    · rw [if_neg h1] at h ⊢
      by_cases h2 : l.length - p < n
      · rw [if_pos h2] at h; simp at h
      · rw [if_neg h2]
        refine ⟨by show p + n ≤ _; omega, ?_⟩
        show (strOfNums _).size ≤ _
        have e : ∀ a : List Int, (strOfNums a).size = a.length := fun a => by simp [strOfNums, ByteArray.size]
        rw [e, ofN_length, List.length_drop, List.length_take]
        omega
  · rw [if_pos he] at h
    exact absurd h he
/-- The rounds that are left, the place, the texts so far. -/
def goN (l : List Nat) : Nat → Nat → List ByteArray → List ByteArray × Nat × Nat
  | 0, k, L => (L, k, 0)
  | i + 1, k, L => if (oneN (l.drop k)).2.2 ≠ 0 then ([], 0, (oneN (l.drop k)).2.2) else if (idx L (oneN (l.drop k)).1).isSome then ([], 0, 11) else goN l i (k + (oneN (l.drop k)).2.1) (L ++ [(oneN (l.drop k)).1])
def readN (l : List Nat) : List ByteArray × Nat × Nat :=
  if (vget l).2.2 ≠ 0 then ([], 0, (vget l).2.2) else if 4096 < (vget l).1 then ([], 0, 11) else goN l (vget l).1 (vget l).2.1 []
def ofL (r : List ByteArray × Nat × Nat) : List ByteArray × Int × Int := (r.1, (r.2.1 : Int), (r.2.2 : Int))
theorem one_bad {l : List Nat} {n q e : Nat} (h : vget l = (n, q, e)) (he : e ≠ 0) : oneN l = (⟨#[]⟩, 0, e) := by
  unfold oneN; rw [h]; exact if_pos he
theorem one_big {l : List Nat} {n q : Nat} (h : vget l = (n, q, 0)) (hn : 4096 < n) : oneN l = (⟨#[]⟩, 0, 11) := by
  unfold oneN; rw [h]; rw [if_neg (by simp : ¬ (0 : Nat) ≠ 0), if_pos hn]
theorem one_short {l : List Nat} {n q : Nat} (h : vget l = (n, q, 0)) (hn : ¬ 4096 < n) (hs : l.length - q < n) : oneN l = (⟨#[]⟩, 0, 10) := by
  unfold oneN; rw [h]; rw [if_neg (by simp : ¬ (0 : Nat) ≠ 0), if_neg hn, if_pos hs]
theorem one_good {l : List Nat} {n q : Nat} (h : vget l = (n, q, 0)) (hn : ¬ 4096 < n) (hs : ¬ l.length - q < n) : oneN l = (strOfNums (ofN ((l.take (q + n)).drop q)), q + n, 0) := by
  unfold oneN; rw [h]; rw [if_neg (by simp : ¬ (0 : Nat) ≠ 0), if_neg hn, if_neg hs]
theorem go_bad {l : List Nat} {p : Nat} {s : ByteArray} {q e : Nat} (h : oneN (l.drop p) = (s, q, e)) (he : e ≠ 0) (d : Nat) (L : List ByteArray) : goN l (d + 1) p L = ([], 0, e) := by
  rw [goN, h]; exact if_pos he
theorem go_dup {l : List Nat} {p : Nat} {s : ByteArray} {q : Nat} (h : oneN (l.drop p) = (s, q, 0)) (d : Nat) (L : List ByteArray) (j : Nat) (hj : idx L s = some j) : goN l (d + 1) p L = ([], 0, 11) := by
  rw [goN, h]; show (if (0 : Nat) ≠ 0 then _ else _) = _; rw [if_neg (by simp : ¬ (0 : Nat) ≠ 0)]; show (if (idx L s).isSome = true then _ else _) = _; rw [hj]; rfl
theorem go_new {l : List Nat} {p : Nat} {s : ByteArray} {q : Nat} (h : oneN (l.drop p) = (s, q, 0)) (d : Nat) (L : List ByteArray) (hj : idx L s = none) : goN l (d + 1) p L = goN l d (p + q) (L ++ [s]) := by
  rw [goN, h]; show (if (0 : Nat) ≠ 0 then _ else _) = _; rw [if_neg (by simp : ¬ (0 : Nat) ≠ 0)]; show (if (idx L s).isSome = true then _ else _) = _; rw [hj]; rfl
theorem wadd {a b : Nat} (h : a + b ≤ 60000) : wrap64 ((a : Int) + (b : Int)) = ((a + b : Nat) : Int) := by rw [IntWalk.wrap64_in _ (by omega)]; omega
theorem wsub {a b : Nat} (h : a ≤ 60000) (hb : b ≤ a) : wrap64 ((a : Int) - (b : Int)) = ((a - b : Nat) : Int) := by rw [IntWalk.wrap64_in _ (by omega)]; omega
theorem wone {a : Nat} (h : a ≤ 60000) : wrap64 (a : Int) = (a : Int) := IntWalk.wrap64_in _ (by omega)
theorem wsuc {a : Nat} (h : a ≤ 60000) : wrap64 ((a : Int) + 1) = ((a + 1 : Nat) : Int) := by rw [IntWalk.wrap64_in _ (by omega)]; omega
set_option maxHeartbeats 1000000 in
theorem ref_loop (l : List Nat) (hw : ∀ n ∈ l, n ≤ 255) (hl : l.length ≤ 20000) (N : Nat) (hN : N ≤ 4096) (F : Nat) (hF1 : 2 * l.length + 1 < F) (hF2 : 4098 ≤ F) : ∀ (d i p : Nat) (L : List ByteArray) (k : Nat), i + d = N → p ≤ l.length → L.length = i → F + d < k →
    tallyroomref05_Read.l0 k (ofN l) (N : Int) (p : Int) L (i : Int) = some (ofL (goN l d p L)) := by
  intro d
  induction d with
  | zero =>
    intro i p L k hi hp hL hk
    obtain ⟨k, rfl⟩ : ∃ m, k = m + 1 := ⟨k - 1, by omega⟩
    rw [tallyroomref05_Read.l0, wone (by omega), if_neg (by omega)]
    rfl
  | succ d ih =>
    intro i p L k hi hp hL hk
    obtain ⟨k, rfl⟩ : ∃ m, k = m + 1 := ⟨k - 1, by omega⟩
    have hlen := ofN_length l
    have hdl : (l.drop p).length = l.length - p := List.length_drop
    have h1 : ∀ n ∈ l.drop p, n ≤ 255 := fun n hn => hw n (List.mem_of_mem_drop hn)
    have hu := vget_used (l.drop p)
    rw [tallyroomref05_Read.l0, wone (by omega : N ≤ 60000), if_pos (by omega), if_pos (by omega), if_pos (by omega), Int.toNat_natCast, ofN_drop, rget (l.drop p) h1 k (by omega)]
    obtain ⟨n, q, e, hg⟩ : ∃ n q e, vget (l.drop p) = (n, q, e) := ⟨_, _, _, rfl⟩
    rw [hg] at hu ⊢
    simp only at hu
    rw [show (some (ofT (n, q, e)) : Option (Int × Int × Int)) = some ((n : Int), (q : Int), (e : Int)) from rfl, Option.bind_some]
    dsimp only
    by_cases he : e = 0
    · subst he
      have hu := hu rfl
      rw [if_pos (by rfl)]
      by_cases h1 : 4096 < n
      · rw [if_pos (by omega), go_bad (one_big hg h1) (by omega)]; rfl
      · rw [if_neg (by omega), show wrap64 (n : Int) = (n : Int) from wone (by omega), show wrap64 ((p : Int) + (q : Int)) = ((p + q : Nat) : Int) from wadd (by omega), hlen, show wrap64 ((l.length : Int) - ((p + q : Nat) : Int)) = ((l.length - (p + q) : Nat) : Int) from wsub (by omega) (by omega)]
        by_cases h2 : (l.drop p).length - q < n
        · rw [if_pos (by omega), go_bad (one_short hg h1 h2) (by omega)]; rfl
        · have ho := one_good hg h1 h2
          have es : (l.take (p + q + n)).drop (p + q) = ((l.drop p).take (q + n)).drop q := by
            rw [← List.drop_drop, List.drop_take]
            congr 2
            omega
          rw [if_neg (by omega), show wrap64 (((p + q : Nat) : Int) + (n : Int)) = ((p + q + n : Nat) : Int) from wadd (by omega), if_pos (by omega), if_pos (by omega), if_pos (by omega), Int.toNat_natCast, Int.toNat_natCast, ofN_take, ofN_drop, es]
          generalize strOfNums (ofN (((l.drop p).take (q + n)).drop q)) = s at ho ⊢
          have hf : tallyroomref05_Find.f k L s = some (idxI (idx L s)) := by
            have := find_eq L s (Nat.lt_of_le_of_lt (by omega : L.length ≤ 4096) (by decide)) L.length k 0 (by omega) (by omega) (by omega)
            unfold tallyroomref05_Find.f idx
            refine this.trans ?_
            simp
          rw [hf]
          rw [Option.bind_some]
          cases hid : idx L s with
          | some j =>
            rw [if_pos (by show (j : Int) ≥ 0; omega), go_dup ho d L j hid]; rfl
          | none =>
            rw [if_neg (by show ¬ (-1 : Int) ≥ 0; omega), if_pos (Nat.lt_of_le_of_lt (by omega : L.length ≤ 4096) (by decide)), go_new ho d L hid]
            rw [show wrap64 ((i : Int) + 1) = ((i + 1 : Nat) : Int) from wsuc (by omega), Nat.add_assoc p q n]
            exact ih (i + 1) (p + (q + n)) (L ++ [s]) k (by omega) (by omega) (by simp [hL]) (by omega)
    · rw [if_neg (by omega), go_bad (one_bad hg he) he]
      rfl
theorem ref_f (l : List Nat) (hw : ∀ n ∈ l, n ≤ 255) (hl : l.length ≤ 20000) : tallyroomref05_Read.f (2 * l.length + 40000) (ofN l) = some (ofL (readN l)) := by
  unfold tallyroomref05_Read.f readN
  rw [rget l hw _ (by omega)]
  have hu := vget_used l
  generalize vget l = g at hu ⊢
  obtain ⟨n, p, e⟩ := g
  simp only at hu ⊢
  simp only [Option.bind_some, ofT]
  by_cases he : e = 0
  · subst he
    rw [if_pos (by rfl), if_neg (by simp : ¬ (0 : Nat) ≠ 0)]
    by_cases h1 : 4096 < n
    · rw [if_pos (by omega), if_pos h1]; rfl
    · rw [if_neg (by omega), if_neg h1]
      exact ref_loop l hw hl n (by omega) (2 * l.length + 10000) (by omega) (by omega) n 0 p [] _ (by omega) (hu rfl) rfl (by omega)
  · rw [if_neg (by omega), if_pos (by simpa using he)]
    rfl
end Go.Proofs.Ytfgpcoocbblkiaa.St
