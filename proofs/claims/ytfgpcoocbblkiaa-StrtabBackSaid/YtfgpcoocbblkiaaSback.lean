/- What is read of a table's bytes, and of a part of them: plain. No conditions but bounds. -/
import Derived.Test.YtfgpcoocbblkiaaSr
namespace Go.Proofs.Ytfgpcoocbblkiaa.St
open Go.RowKit Go.Maps Go.ChangeMaps Go.MapKept Go.Proofs.YtfgpcoocbblkiaaW.PrintWords Go.Proofs.YtfgpcoocbblkiaaW.PrintLast
open Go.Proofs.Ytfgpcoocbblkiaa.Ob Go.Proofs.Ytfgpcoocbblkiaa.XSv Go.Proofs.Ytfgpcoocbblkiaa.Var
set_option linter.unusedSimpArgs false
set_option linter.unusedVariables false

def raw (s : ByteArray) : List Nat := s.data.toList.map UInt8.toNat
theorem raw_length (s : ByteArray) : (raw s).length = s.size := by rw [raw, List.length_map, Array.length_toList]; rfl
theorem txt_eq (s : ByteArray) : txt s = vput s.size ++ raw s := rfl
theorem str_raw (s : ByteArray) : strOfNums (ofN (raw s)) = s := by
  apply bytes_ext
  unfold strOfNums ofN raw
  simp only [List.map_map, List.map_toArray]
  refine (List.map_congr_left (g := id) (fun u _ => ?_)).trans (List.map_id _)
  show UInt8.ofNat ((u.toNat : Int).toNat) = u
  rw [Int.toNat_natCast, UInt8.ofNat_toNat]
theorem one_txt (s : ByteArray) (hs : s.size ≤ 4096) (R : List Nat) : oneN (txt s ++ R) = (s, (txt s).length, 0) := by
  have hv : vget (txt s ++ R) = (s.size, (vput s.size).length, 0) := by
    rw [txt_eq, List.append_assoc]; exact vget_put _ _ (by omega)
  have hl : (txt s).length = (vput s.size).length + s.size := by rw [txt_eq, List.length_append, raw_length]
  rw [one_good hv (by omega) (by rw [List.length_append, hl]; omega), hl]
  congr 1
  rw [← hl, List.take_left' rfl, txt_eq, List.drop_left' rfl, str_raw]
theorem one_cut (s : ByteArray) (hs : s.size ≤ 4096) (k : Nat) (hk : k < (txt s).length) : ∃ t q, oneN ((txt s).take k) = (t, q, 10) := by
  by_cases h1 : k < (vput s.size).length
  · have e : (txt s).take k = (vput s.size).take k := by rw [txt_eq, List.take_append_of_le_length (by omega)]
    rw [e]
    exact ⟨_, _, one_bad (vget_cut s.size k (by omega) h1) (by decide)⟩
  · have e : (txt s).take k = vput s.size ++ (raw s).take (k - (vput s.size).length) := by rw [txt_eq, List.take_append, List.take_of_length_le (by omega)]
    have hl : (txt s).length = (vput s.size).length + s.size := by rw [txt_eq, List.length_append, raw_length]
    rw [e]
    refine ⟨_, _, one_short (vget_put s.size _ (by omega)) (by omega) ?_⟩
    rw [List.length_append, List.length_take, raw_length]; omega
/-- no text twice -/
def Lone (L : List ByteArray) : Prop := L.Nodup
theorem idx_of_not_mem {L : List ByteArray} {s : ByteArray} (h : s ∉ L) : idx L s = none := by
  unfold idx
  rw [List.findIdx?_eq_none_iff]
  intro x hx
  have : ¬ x.data.toList = s.data.toList := fun e => h (bytes_ext e ▸ hx)
  simpa using fun e : x.data = s.data => this (by rw [e])
theorem go_all (l : List Nat) (R : List Nat) : ∀ (M L : List ByteArray) (p : Nat), (L ++ M).Nodup → (∀ s ∈ M, s.size ≤ 4096) → l.drop p = M.flatMap txt ++ R → goN l M.length p L = (L ++ M, p + (M.flatMap txt).length, 0) := by
  intro M
  induction M with
  | nil => intro L p _ _ _; simp [goN]
  | cons s M ih =>
    intro L p hn hs hd
    have h1 : oneN (l.drop p) = (s, (txt s).length, 0) := by
      rw [hd, List.flatMap_cons, List.append_assoc]; exact one_txt s (hs s (by simp)) _
    have hi : idx L s = none := idx_of_not_mem (fun h => (List.nodup_append.1 hn).2.2 s h s (by simp) rfl)
    rw [List.length_cons, go_new h1 _ _ hi, ih (L ++ [s]) _ (by simpa using hn) (fun x hx => hs x (by simp [hx]))]
    · simp [List.flatMap_cons, Nat.add_assoc]
    · rw [← List.drop_drop, hd, List.flatMap_cons, List.append_assoc, List.drop_left' rfl]
theorem go_cut (l : List Nat) : ∀ (M L : List ByteArray) (p k : Nat), (L ++ M).Nodup → (∀ s ∈ M, s.size ≤ 4096) → k < (M.flatMap txt).length → l.drop p = (M.flatMap txt).take k → ∃ A b, goN l M.length p L = (A, b, 10) := by
  intro M
  induction M with
  | nil => intro L p k _ _ hk; simp at hk
  | cons s M ih =>
    intro L p k hn hs hk hd
    by_cases h1 : k < (txt s).length
    · have e : l.drop p = (txt s).take k := by rw [hd, List.flatMap_cons, List.take_append_of_le_length (by omega)]
      obtain ⟨t, q, h⟩ := one_cut s (hs s (by simp)) k h1
      rw [← e] at h
      rw [List.length_cons]
      exact ⟨_, _, go_bad h (by decide) _ _⟩
    · have e : l.drop p = txt s ++ (M.flatMap txt).take (k - (txt s).length) := by rw [hd, List.flatMap_cons, List.take_append, List.take_of_length_le (by omega)]
      have h1 : oneN (l.drop p) = (s, (txt s).length, 0) := by rw [e]; exact one_txt s (hs s (by simp)) _
      have hi : idx L s = none := idx_of_not_mem (fun h => (List.nodup_append.1 hn).2.2 s h s (by simp) rfl)
      rw [List.length_cons, go_new h1 _ _ hi]
      refine ih (L ++ [s]) _ (k - (txt s).length) (by simpa using hn) (fun x hx => hs x (by simp [hx])) ?_ ?_
      · rw [List.flatMap_cons, List.length_append] at hk; omega
      · rw [← List.drop_drop, e, List.drop_left' rfl]
theorem read_all (M : List ByteArray) (R : List Nat) (hn : M.Nodup) (hm : M.length ≤ 4096) (hs : ∀ s ∈ M, s.size ≤ 4096) : readN (enc M ++ R) = (M, (enc M).length, 0) := by
  have hv : vget (enc M ++ R) = (M.length, (vput M.length).length, 0) := by unfold enc; rw [List.append_assoc]; exact vget_put _ _ (by omega)
  unfold readN
  rw [hv, if_neg (by simp), if_neg (by simpa using hm), go_all (enc M ++ R) R M [] _ (by simpa using hn) hs (by unfold enc; rw [List.append_assoc, List.drop_left' rfl])]
  simp [enc]
theorem read_cut (M : List ByteArray) (k : Nat) (hn : M.Nodup) (hm : M.length ≤ 4096) (hs : ∀ s ∈ M, s.size ≤ 4096) (hk : k < (enc M).length) : ∃ A b, readN ((enc M).take k) = (A, b, 10) := by
  unfold readN
  by_cases h1 : k < (vput M.length).length
  · have e : (enc M).take k = (vput M.length).take k := by unfold enc; rw [List.take_append_of_le_length (by omega)]
    rw [e, vget_cut M.length k (by omega) h1, if_pos (by simp)]
    exact ⟨_, _, rfl⟩
  · have e : (enc M).take k = vput M.length ++ (M.flatMap txt).take (k - (vput M.length).length) := by unfold enc; rw [List.take_append, List.take_of_length_le (by omega)]
    rw [e, vget_put _ _ (by omega), if_neg (by simp), if_neg (by simpa using hm)]
    refine go_cut _ M [] _ (k - (vput M.length).length) (by simpa using hn) hs ?_ ?_
    · unfold enc at hk; rw [List.length_append] at hk; omega
    · show List.drop (vput M.length).length _ = _; rw [List.drop_left' rfl]
theorem enc_pos (M : List ByteArray) : 1 ≤ (enc M).length := by unfold enc; rw [List.length_append]; have := vput_pos M.length; omega
theorem nodup_snoc {L : List ByteArray} {s : ByteArray} (h : L.Nodup) (hi : idx L s = none) : (L ++ [s]).Nodup := by
  rw [List.nodup_append]
  refine ⟨h, by simp, ?_⟩
  intro a ha b hb e
  rw [List.mem_singleton] at hb
  subst hb e
  exact idx_none hi ha
end Go.Proofs.Ytfgpcoocbblkiaa.St
