/- FrameBack: frames made by Wrap are parted into their bodies, and one hurt bit loses one frame. No conditions. -/
import Derived.Test.YtbfmmjdbnbfnmaaXDx0
import Derived.Test.YtbfmmjdbnbfnmaaXDx39
import Derived.Test.YtbfmmjdbnbfnmaaArgFrameBack
import Derived.Test.YtbfmmjdbnbfnmaaFrameKit
namespace Go.Proofs.Ytbfmmjdbnbfnmaa.Pure
open Go.RowKit Go.Proofs.Ytbfmmjdbnbfnmaa.XD Go.Proofs.YtbfmmjdbnbfnmaaW.PrintWords Go.Proofs.YtbfmmjdbnbfnmaaW.PrintLast Go.Proofs.YtbfmmjdbnbfnmaaW.PrintMore
open Go.Proofs.Ytbfmmjdbnbfnmaa.Var Go.Proofs.Ytbfmmjdbnbfnmaa.Crc Go.Proofs.Ytbfmmjdbnbfnmaa.Frm

theorem ofN_set (l : List Nat) (i x : Nat) : (ofN l).set i (x : Int) = ofN (l.set i x) := by simp [ofN, List.map_set]
theorem xor_u8 (a b : Nat) (ha : a ≤ 255) (hb : b ≤ 255) : Go.bits .xor .u8 (a : Int) (b : Int) = ((a ^^^ b : Nat) : Int) := by
  have hx : a ^^^ b < 2 ^ 8 := Nat.xor_lt_two_pow (by omega) (by omega)
  have h1 : (BitVec.ofInt 8 (a : Int)).toNat = a := by
    rw [BitVec.ofInt_natCast, BitVec.toNat_ofNat]; exact Nat.mod_eq_of_lt (by omega)
  have h2 : (BitVec.ofInt 8 (b : Int)).toNat = b := by
    rw [BitVec.ofInt_natCast, BitVec.toNat_ofNat]; exact Nat.mod_eq_of_lt (by omega)
  show IntKind.u8.wrap ((BitVec.ofInt 8 (a : Int) ^^^ BitVec.ofInt 8 (b : Int)).toNat : Int) = _
  rw [BitVec.toNat_xor, h1, h2, IntKind.wrap_u8]
  omega
theorem shl_bit (j : Nat) (h : j < 8) : shl .u8 1 (j : Int) = ((2 ^ j : Nat) : Int) := by
  have : ∀ i : Fin 8, shl .u8 1 ((i.val : Nat) : Int) = ((2 ^ i.val : Nat) : Int) := by decide +kernel
  exact this ⟨j, h⟩
theorem turn_at (s : List Nat) (hw : ∀ x ∈ s, x ≤ 255) (q j : Nat) (hj : j < 8) : (ofN s).set (((q : Nat) : Int)).toNat (Go.bits .xor .u8 (rd (ofN s) ((q : Nat) : Int)) (shl .u8 1 ((j : Nat) : Int))) = ofN (turned s (8 * q + j)) := by
  rw [rd_ofN, shl_bit _ hj, xor_u8 _ _ (getD_le hw _) (by have : 2 ^ j < 2 ^ 8 := Nat.pow_lt_pow_right (by decide) (by omega); omega), Int.toNat_natCast, ofN_set]
  unfold turned
  rw [show (8 * q + j) / 8 = q by omega, show (8 * q + j) % 8 = j by omega]
theorem turned_app (a l b : List Nat) (p : Nat) (hp : p < 8 * l.length) : turned (a ++ l ++ b) (8 * a.length + p) = a ++ turned l p ++ b := by
  unfold turned
  rw [show (8 * a.length + p) / 8 = a.length + p / 8 by omega, show (8 * a.length + p) % 8 = p % 8 by omega]
  have e : (a ++ l ++ b).getD (a.length + p / 8) 0 = l.getD (p / 8) 0 := by
    simp only [List.getD_eq_getElem?_getD]
    rw [List.append_assoc, List.getElem?_append_right (by omega), show a.length + p / 8 - a.length = p / 8 by omega, List.getElem?_append_left (by omega)]
  rw [e, List.append_assoc, List.set_append_right _ _ (by omega), show a.length + p / 8 - a.length = p / 8 by omega, List.set_append_left _ _ (by omega), List.append_assoc]
/-- The stream of the first i bodies. -/
def st (ns : List (List Nat)) (i : Nat) : List Nat := ((ns.take i).map wrapped).flatten
theorem st_next (ns : List (List Nat)) {i : Nat} (h : i < ns.length) : st ns (i + 1) = st ns i ++ wrapped (ns.getD i []) := by
  unfold st
  rw [take_one [] ns h, List.map_append, List.flatten_append]
  simp
theorem st_wf {ns : List (List Nat)} (hw : ∀ x ∈ ns, ∀ y ∈ x, y ≤ 255) (i : Nat) : ∀ y ∈ st ns i, y ≤ 255 := fun y hy => by
  obtain ⟨x, hx, hy⟩ := List.mem_flatten.1 hy
  obtain ⟨z, hz, rfl⟩ := List.mem_map.1 hx
  exact wrapped_wf (hw z (List.mem_of_mem_take hz)) y hy
def starts (ns : List (List Nat)) (i : Nat) : List Nat := (List.range i).map fun j => (st ns j).length
theorem starts_get (ns : List (List Nat)) (i j : Nat) (h : j < i) : (starts ns i).getD j 0 = (st ns j).length := by
  simp [starts, List.getD_eq_getElem?_getD, h]
theorem hurt (ns : List (List Nat)) (hw : ∀ x ∈ ns, ∀ y ∈ x, y ≤ 255) (hc : ∀ x ∈ ns, x.length ≤ 100) (b : Nat) (hb : b < ns.length) (p : Nat) (hp : p < 8 * ((ns.getD b []).length + 4)) :
    all (turned (st ns ns.length) (8 * ((st ns b).length + 1) + p)) = (ns.take b ++ ns.drop (b + 1), 1, (st ns ns.length).length) := by
  have hx : (ns.getD b []).length ≤ 100 := by
    rw [List.getD_eq_getElem?_getD, List.getElem?_eq_getElem hb]; exact hc _ (List.getElem_mem hb)
  have hxw := getD_rows hw b
  have e : st ns ns.length = (st ns b ++ vput (ns.getD b []).length) ++ sealed (ns.getD b []) ++ ((ns.drop (b + 1)).map wrapped).flatten := by
    have : ns = ns.take b ++ (ns.getD b [] :: ns.drop (b + 1)) := by
      conv => lhs; rw [← List.take_append_drop b ns]
      rw [List.getD_eq_getElem?_getD, List.getElem?_eq_getElem hb, List.drop_eq_getElem_cons hb]; rfl
    unfold st
    rw [List.take_length]
    conv => lhs; rw [this]
    rw [List.map_append, List.flatten_append, List.map_cons, List.flatten_cons]
    unfold wrapped
    simp only [List.append_assoc]
  have hv : (vput (ns.getD b []).length).length = 1 := by rw [vput_small (by omega)]; rfl
  have hlen : (st ns ns.length).length = (st ns b).length + 1 + ((ns.getD b []).length + 4) + ((ns.drop (b + 1)).map wrapped).flatten.length := by
    rw [e, List.length_append, List.length_append, List.length_append, hv, sealed_length]
  rw [hlen, e]
  have ha : (st ns b ++ vput (ns.getD b []).length).length = (st ns b).length + 1 := by rw [List.length_append, hv]
  have hsl := sealed_length (ns.getD b [])
  rw [← ha, turned_app _ _ _ p (by omega)]
  have ho := tells_one (ns.getD b []) hxw p (by omega)
  have htl := turned_length (sealed (ns.getD b [])) p
  rw [List.append_assoc (st ns b), List.append_assoc (st ns b)]
  have h1 := all_wrapped (ns.take b) (vput (ns.getD b []).length ++ turned (sealed (ns.getD b [])) p ++ ((ns.drop (b + 1)).map wrapped).flatten) fun x hx => by have := hc x (List.mem_of_mem_take hx); omega
  rw [show ((ns.take b).map wrapped).flatten = st ns b from rfl] at h1
  rw [h1, all_hurt (ns.getD b []).length _ _ (by omega) (by omega) (by omega)]
  have h2 := all_wrapped (ns.drop (b + 1)) [] fun x hx => by have := hc x (List.mem_of_mem_drop hx); omega
  rw [List.append_nil, all_nil] at h2
  rw [h2]
  simp only [List.append_nil, hv, ha, Prod.mk.injEq, true_and]
  omega
theorem len4 (m : Nat) (h : m ≤ 100) : wrap64 ((m : Int) + 4) = ((m + 4 : Nat) : Int) := by rw [IntWalk.wrap64_in ((m : Int) + 4) (by omega)]; omega
theorem quo (c m : Nat) (h : c ≤ 65535) : Int.tmod (wrap64 (Int.tdiv (wrap64 ((c : Nat) : Int)) 8)) ((m + 4 : Nat) : Int) = ((c / 8 % (m + 4) : Nat) : Int) := by
  rw [IntWalk.wrap64_in (c : Int) (by omega), Int.tdiv_eq_ediv_of_nonneg (by omega), show (c : Int) / 8 = ((c / 8 : Nat) : Int) by omega, IntWalk.wrap64_in ((c / 8 : Nat) : Int) (by omega), Int.tmod_eq_emod_of_nonneg (by omega)]; exact (Int.natCast_emod _ _).symm
theorem bit3 (c : Nat) (h : c ≤ 65535) : IntKind.u64.wrap (Int.tmod ((c : Nat) : Int) 8) = ((c % 8 : Nat) : Int) := by
  rw [Int.tmod_eq_emod_of_nonneg (by omega), IntWalk.u64_in _ (by omega)]; omega
theorem place (z q : Nat) (hz : z ≤ 3000) (hq : q ≤ 200) : wrap64 (wrap64 ((z : Int) + 1) + (q : Int)) = ((z + 1 + q : Nat) : Int) := by
  rw [IntWalk.wrap64_in ((z : Int) + 1) (by omega), IntWalk.wrap64_in ((z : Int) + 1 + q) (by omega)]; omega
theorem same_loop (ns : List (List Nat)) (hw : ∀ x ∈ ns, ∀ y ∈ x, y ≤ 255) (hc : ∀ x ∈ ns, x.length ≤ 100) (hn : ns.length ≤ 20) (hs : (st ns ns.length).length ≤ 3000) (a c : Nat) (ha : a ≤ 65535) (hcc : c ≤ 65535) (d : Nat) : ∀ (i k : Nat), i + d = ns.length → d + 10000 < k →
    tallyroomlaw08_FrameBack.l1 k (ns.map ofN) (a : Int) (c : Int) (ofN (st ns ns.length)) (ofN (starts ns ns.length)) (ns.map ofN) (i : Int) = some true := by
  induction d with
  | zero =>
    intro i k hi hk
    obtain ⟨k, rfl⟩ : ∃ m, k = m + 1 := ⟨k - 1, by omega⟩
    rw [tallyroomlaw08_FrameBack.l1, if_neg (by simp; omega), List.length_map]
    by_cases h0 : ns.length = 0
    · rw [if_pos (by omega)]
    · rw [if_neg (by omega)]
      have e1 : Int.tmod (wrap64 ((a : Nat) : Int)) (ns.length : Int) = ((a % ns.length : Nat) : Int) := by
        rw [IntWalk.wrap64_in _ (by omega), Int.tmod_eq_emod_of_nonneg (by omega)]; omega
      have hb := Nat.mod_lt a (show 0 < ns.length by omega)
      rw [e1]
      have hst := starts_get ns ns.length (a % ns.length) hb
      have hh := hurt ns hw hc (a % ns.length) hb
      have hsl : (starts ns ns.length).length = ns.length := by simp [starts]
      generalize a % ns.length = b at hb hst hh ⊢
      have hx : (ns.getD b []).length ≤ 100 := by
        rw [List.getD_eq_getElem?_getD, List.getElem?_eq_getElem hb]; exact hc _ (List.getElem_mem hb)
      rw [rd_rows, rd_ofN, hst, ofN_length (ns.getD b [])]
      have hle : (st ns b).length + 1 + ((ns.getD b []).length + 4) ≤ (st ns ns.length).length := by
        have h1 := st_next ns hb
        have h2 : (st ns (b + 1)).length ≤ (st ns ns.length).length := by
          unfold st
          conv => rhs; rw [List.take_length, ← List.take_append_drop (b + 1) ns, List.map_append, List.flatten_append, List.length_append]
          omega
        rw [h1, List.length_append, wrapped_length, vput_small (by omega), List.length_singleton] at h2
        omega
      generalize hmm : (ns.getD b []).length = m at hx hle hh ⊢
      generalize (st ns b).length = z at hle hh ⊢
      have hq := Nat.mod_lt (c / 8) (Nat.succ_pos (m + 3))
      rw [len4 m hx, quo c m hcc, bit3 c hcc]
      rw [show (m + 3).succ = m + 4 from rfl] at hq
      generalize c / 8 % (m + 4) = q at hq ⊢
      rw [place z q (by omega) (by omega)]
      have hfw := st_wf hw ns.length
      rw [turn_at _ hfw _ _ (by omega)]
      have h8 := hh (8 * q + c % 8) (by omega)
      rw [show 8 * (z + 1) + (8 * q + c % 8) = 8 * (z + 1 + q) + c % 8 by omega] at h8
      rw [if_pos (by omega), if_pos (by rw [ofN_length, hsl]; omega), if_pos (by omega), if_neg (by omega), if_pos (by omega), if_pos (by rw [ofN_length]; omega), if_pos (by omega)]
      rw [all_eq _ (turned_wf _ hfw) (by rw [turned_length]; omega) k (by rw [turned_length]; omega), Option.bind_some, h8]
      have e6 : ((List.map ofN (ns.take b ++ ns.drop (b + 1))).length : Int) = wrap64 ((ns.length : Int) - 1) := by
        rw [IntWalk.wrap64_in _ (by omega), List.length_map, List.length_append, List.length_take, List.length_drop]; omega
      rw [if_pos e6, if_pos (by rfl), ofN_length]
      simp
  | succ d ih =>
    intro i k hi hk
    obtain ⟨k, rfl⟩ : ∃ m, k = m + 1 := ⟨k - 1, by omega⟩
    have hwi := getD_rows hw i
    rw [tallyroomlaw08_FrameBack.l1, if_pos (by simp; omega), if_pos (by omega), if_pos (by simp; omega), rd_rows, bytes_eq hwi hwi, Option.bind_some, if_pos (by simp), IntWalk.wrap64_in _ (by omega), show (i : Int) + 1 = ((i + 1 : Nat) : Int) by omega]
    exact ih (i + 1) k (by omega) (by omega)
theorem wrap_loop (ns : List (List Nat)) (hw : ∀ x ∈ ns, ∀ y ∈ x, y ≤ 255) (hn : ns.length ≤ 20) (a c : Nat) (ha : a ≤ 65535) (hcc : c ≤ 65535) (d : Nat) : ∀ (i k : Nat), i + d = ns.length → d + 20000 < k → (∀ x ∈ ns.take i, x.length ≤ 100) → (st ns i).length ≤ 105 * i →
    tallyroomlaw08_FrameBack.l0 k (ns.map ofN) (a : Int) (c : Int) (ofN (st ns i)) (ofN (starts ns i)) (i : Int) = some true := by
  induction d with
  | zero =>
    intro i k hi hk hc hs
    obtain ⟨k, rfl⟩ : ∃ m, k = m + 1 := ⟨k - 1, by omega⟩
    obtain rfl : i = ns.length := by omega
    rw [List.take_length] at hc
    have h1 := all_wrapped ns [] fun x hx => by have := hc x hx; omega
    rw [List.append_nil, all_nil, List.append_nil] at h1
    have h2 : all (st ns ns.length) = (ns, 0, (st ns ns.length).length) := by
      unfold st; rw [List.take_length, h1]; rfl
    rw [tallyroomlaw08_FrameBack.l0, if_neg (by simp), all_eq _ (st_wf hw _) (by omega) k (by omega), Option.bind_some, h2, if_pos (by simp), if_pos (by rfl)]
    obtain ⟨k, rfl⟩ : ∃ m, k = m + 1 := ⟨k - 1, by omega⟩
    rw [tallyroomlaw08_FrameBack.j1, if_neg (by simp [ofN_length])]
    have := same_loop ns hw hc hn (by omega) a c ha hcc ns.length 0 k (by omega) (by omega)
    simpa using this
  | succ d ih =>
    intro i k hi hk hc hs
    obtain ⟨k, rfl⟩ : ∃ m, k = m + 1 := ⟨k - 1, by omega⟩
    have hwi := getD_rows hw i
    rw [tallyroomlaw08_FrameBack.l0, if_pos (by simp; omega), if_pos (by omega), rd_rows]
    by_cases h : (ns.getD i []).length > 100
    · rw [if_pos (by rw [ofN_length]; omega)]
    · have hl := wrapped_length (ns.getD i [])
      rw [vput_small (show (ns.getD i []).length < 128 by omega), List.length_singleton] at hl
      have hsl : (starts ns i).length = i := by simp [starts]
      rw [if_neg (by rw [ofN_length]; omega), wrap_eq _ hwi (by omega) k (by omega), Option.bind_some, if_pos rfl, if_pos (by rw [ofN_length, hsl]; omega), if_pos (by rw [ofN_length, ofN_length]; omega)]
      rw [← ofN_append, ← st_next ns (by omega), IntWalk.wrap64_in _ (by omega), show (i : Int) + 1 = ((i + 1 : Nat) : Int) by omega]
      have e : ofN (starts ns i) ++ [((ofN (st ns i)).length : Int)] = ofN (starts ns (i + 1)) := by
        unfold starts; rw [List.range_succ, ofN_length]; simp [ofN]
      rw [e]
      refine ih (i + 1) k (by omega) (by omega) (fun x hx => ?_) ?_
      · rw [take_one [] ns (by omega)] at hx
        rcases List.mem_append.1 hx with h | h
        · exact hc x h
        · rw [List.mem_singleton.1 h]; omega
      · rw [st_next ns (by omega), List.length_append]; omega
theorem FrameBack : tallyroomlaw08_FrameBack.Pure2 := by
  intro l a c hl ha hcc
  obtain ⟨ns, rfl, hw⟩ := rows_N l fun x hx y hy => (hl.2 x hx).2 y hy
  have ha := u16_wf ha
  obtain ⟨a, rfl⟩ := Int.eq_ofNat_of_zero_le ha.1
  have hcc := u16_wf hcc
  obtain ⟨c, rfl⟩ := Int.eq_ofNat_of_zero_le hcc.1
  refine ⟨30000, ?_⟩
  unfold tallyroomlaw08_FrameBack.f
  rw [alive08 (by omega), Option.bind_some, if_pos rfl]
  by_cases h : ns.length > 20
  · rw [if_pos (by simp; omega)]
  · rw [if_neg (by simp; omega)]
    have := wrap_loop ns hw (by omega) a c (by omega) (by omega) ns.length 0 30000 (by omega) (by omega) (by simp) (by simp [st])
    simpa [st, starts, ofN] using this
end Go.Proofs.Ytbfmmjdbnbfnmaa.Pure
