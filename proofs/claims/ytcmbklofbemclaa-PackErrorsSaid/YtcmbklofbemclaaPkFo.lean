/- What is read is laid again: plain. -/
import Derived.Test.YtcmbklofbemclaaPkBl
namespace Go.Proofs.Ytcmbklofbemclaa
open Go.RowKit

namespace Rd
theorem digs_val (l : List Int) (h : Sha.bytes l) : Pk.digs (val l : Int) l.length = l := by
  induction l with
  | nil => exact digs_nil _
  | cons b l ih =>
    have hb := h b (by simp)
    have hl : Sha.bytes l := fun x hx => h x (by simp [hx])
    have hv := val_lt l hl
    have e2 : (2 : Nat) ^ (8 * l.length) = 256 ^ l.length := by rw [Nat.pow_mul]
    have e1 : val (b :: l) = b.toNat * 256 ^ l.length + val l := val_cons b l
    rw [List.length_cons, digs_succ]
    congr 1
    · rw [e1, pow256, ← Int.natCast_ediv, Nat.mul_comm, Nat.mul_add_div (Nat.pow_pos (by decide)), Nat.div_eq_of_lt hv]
      omega
    · have h1 := Pk.digs_mod (val (b :: l)) l.length
      have h2 : val (b :: l) % 2 ^ (8 * l.length) = val l := by
        rw [e2, e1, Nat.mul_comm, Nat.mul_add_mod, Nat.mod_eq_of_lt hv]
      rw [h2] at h1
      rw [← h1]
      exact ih hl
end Rd

/-- a Reader of s and a Writer of its answers, behind k calls -/
structure Form (s t : List Int) (ew : Int) (rest : List Int) (er : Int) (k : Nat) : Prop where
  same : er = 0 → ew = 0 ∧ t ++ rest = s
  err : er = 0 ∨ er = 50 ∨ er = 51
  len : t.length + rest.length ≤ s.length + 8 * k
  byt : Sha.bytes rest
  dead : er ≠ 0 → rest = []
theorem Form.err_step {s t : List Int} {ew : Int} {rest : List Int} {er : Int} {k : Nat} (h : Form s t ew rest er k) (ok : Bool) (b : List Int) (hb : ok = true → b.length ≤ 8) (e2 : Int) (he : e2 = 50 ∨ e2 = 51) :
    Form s (Pk.put t ew ok b).1 (Pk.put t ew ok b).2 [] e2 (k + 1) := by
  have h1 := Pk.put_len8 t ew ok b 8 hb
  have := h.len
  exact ⟨fun h0 => by omega, by omega, by simp only [List.length_nil]; omega, fun x hx => by simp at hx, fun _ => rfl⟩
theorem fits_len (x k : Int) (h : Pk.fits x k = true) : (Pk.digs x k.toNat).length ≤ 8 := by rw [Pk.length_digs]; simp [Pk.fits] at h; omega
theorem sfits_len (x k : Int) (h : Pk.sfits x k = true) (y : Int) : (Pk.digs y k.toNat).length ≤ 8 := by rw [Pk.length_digs]; simp [Pk.sfits] at h; omega
theorem Form.ok_step {s t : List Int} {ew : Int} {rest : List Int} {k : Nat} (h : Form s t ew rest 0 k) (m : Nat) (hm : m ≤ rest.length) (b : List Int) (hb : b = rest.take m) :
    Form s (Pk.put t ew true b).1 (Pk.put t ew true b).2 (rest.drop m) 0 (k + 1) := by
  obtain ⟨rfl, h2⟩ := h.same rfl
  have := h.len
  rw [put_ok]
  subst hb
  exact ⟨fun _ => ⟨rfl, by show t ++ rest.take m ++ rest.drop m = s; rw [List.append_assoc, List.take_append_drop, h2]⟩, Or.inl rfl, by simp only [List.length_append, List.length_take, List.length_drop]; omega, Sha.bytes_drop h.byt m, fun h => absurd rfl h⟩
theorem Rd.take_cases (t : List Int) (e : Int) (n : Nat) (hd : e ≠ 0 → t = []) (he : e = 0 ∨ e = 50 ∨ e = 51) : (e = 0 ∧ n ≤ t.length ∧ take t e n = (t.take n, (t.drop n, 0))) ∨ ∃ e2, (e2 = 50 ∨ e2 = 51) ∧ take t e n = ([], ([], e2)) := by
  rw [take]
  by_cases h : e = 0
  · rw [if_pos h]
    by_cases hn : n ≤ t.length
    · exact Or.inl ⟨h, hn, if_pos hn⟩
    · exact Or.inr ⟨50, Or.inl rfl, if_neg hn⟩
  · rw [if_neg h, hd h]
    exact Or.inr ⟨e, by omega, rfl⟩
theorem Rd.number_cases (t : List Int) (e k : Int) (hd : e ≠ 0 → t = []) (he : e = 0 ∨ e = 50 ∨ e = 51) : (e = 0 ∧ 1 ≤ k ∧ k ≤ 8 ∧ k.toNat ≤ t.length ∧ number t e k = (val (t.take k.toNat), (t.drop k.toNat, 0))) ∨ ∃ e2, (e2 = 50 ∨ e2 = 51) ∧ number t e k = (0, ([], e2)) := by
  rw [number]
  by_cases hk : 1 ≤ k ∧ k ≤ 8
  · rw [if_pos hk]
    rcases take_cases t e k.toNat hd he with ⟨h1, h2, h3⟩ | ⟨e2, h1, h2⟩
    · exact Or.inl ⟨h1, hk.1, hk.2, h2, by rw [h3]⟩
    · exact Or.inr ⟨e2, h1, by rw [h2]; rfl⟩
  · rw [if_neg hk]
    right
    by_cases h : e = 0
    · rw [if_pos h]; exact ⟨51, Or.inr rfl, rfl⟩
    · rw [if_neg h, hd h]; exact ⟨e, by omega, rfl⟩
theorem Form.number {s t : List Int} {ew : Int} {rest : List Int} {er : Int} {k : Nat} (h : Form s t ew rest er k) (z : Int) :
    Form s (Pk.put t ew (Pk.fits ((Rd.number rest er z).1 : Int) z) (Pk.digs ((Rd.number rest er z).1 : Int) z.toNat)).1 (Pk.put t ew (Pk.fits ((Rd.number rest er z).1 : Int) z) (Pk.digs ((Rd.number rest er z).1 : Int) z.toNat)).2 (Rd.number rest er z).2.1 (Rd.number rest er z).2.2 (k + 1) := by
  rcases Rd.number_cases rest er z h.dead h.err with ⟨rfl, h1, h2, h3, h4⟩ | ⟨e2, h1, h2⟩
  · rw [h4]
    have hb := Sha.bytes_take h.byt z.toNat
    have hlen : (rest.take z.toNat).length = z.toNat := by rw [List.length_take]; omega
    have hv := Rd.val_lt _ hb
    rw [hlen] at hv
    have hf : Pk.fits (Rd.val (rest.take z.toNat) : Int) z = true := by
      rw [Pk.fits]
      refine decide_eq_true ⟨h1, h2, fun _ => ?_⟩
      rw [Rd.pow256, ← Int.natCast_ediv, Nat.div_eq_of_lt hv]; rfl
    have hdg := Rd.digs_val _ hb
    rw [hlen] at hdg
    simp only [hf]
    exact h.ok_step z.toNat h3 _ hdg
  · rw [h2]
    exact h.err_step _ _ (fits_len _ _) e2 h1
theorem digs_sx (x n : Nat) (h1 : 1 ≤ n) (h8 : n ≤ 8) (hx : x < 256 ^ n) : Pk.digs (Rd.sx x n % 18446744073709551616) n = Pk.digs (x : Int) n := by
  obtain ⟨y, hy⟩ : ∃ y : Nat, Rd.sx x n % 18446744073709551616 = y := ⟨(Rd.sx x n % 18446744073709551616).toNat, by omega⟩
  rw [hy, ← Pk.digs_mod y n]
  have e2 : (2 : Nat) ^ (8 * n) = 256 ^ n := by rw [Nat.pow_mul]
  rw [e2]
  have : y % 256 ^ n = x := by
    unfold Rd.sx at hy
    have : n = 1 ∨ n = 2 ∨ n = 3 ∨ n = 4 ∨ n = 5 ∨ n = 6 ∨ n = 7 ∨ n = 8 := by omega
    rcases this with rfl | rfl | rfl | rfl | rfl | rfl | rfl | rfl <;> simp only [Nat.reducePow, Nat.reduceMul, Nat.reduceSub, Int.reducePow] at hx hy ⊢ <;> split at hy <;> omega
  rw [this]
theorem sfits_sx (x n : Nat) (h1 : 1 ≤ n) (h8 : n ≤ 8) (hx : x < 256 ^ n) : Pk.sfits (Rd.sx x n) (n : Int) = true := by
  unfold Pk.sfits
  refine decide_eq_true ⟨by omega, by omega, fun _ => ?_⟩
  rw [Int.toNat_natCast]
  unfold Rd.sx
  have : n = 1 ∨ n = 2 ∨ n = 3 ∨ n = 4 ∨ n = 5 ∨ n = 6 ∨ n = 7 ∨ n = 8 := by omega
  rcases this with rfl | rfl | rfl | rfl | rfl | rfl | rfl | rfl <;> simp only [Nat.reducePow, Nat.reduceMul, Nat.reduceSub, Int.reducePow] at hx ⊢ <;> split <;> omega
theorem Form.signed {s t : List Int} {ew : Int} {rest : List Int} {er : Int} {k : Nat} (h : Form s t ew rest er k) (z : Int) :
    Form s (Pk.put t ew (Pk.sfits (Rd.signed rest er z).1 z) (Pk.digs ((Rd.signed rest er z).1 % 18446744073709551616) z.toNat)).1 (Pk.put t ew (Pk.sfits (Rd.signed rest er z).1 z) (Pk.digs ((Rd.signed rest er z).1 % 18446744073709551616) z.toNat)).2 (Rd.signed rest er z).2.1 (Rd.signed rest er z).2.2 (k + 1) := by
  rw [Rd.signed]
  rcases Rd.number_cases rest er z h.dead h.err with ⟨rfl, h1, h2, h3, h4⟩ | ⟨e2, h1, h2⟩
  · rw [h4]
    simp only [if_true]
    obtain ⟨n, rfl⟩ : ∃ n : Nat, z = n := ⟨z.toNat, by omega⟩
    rw [Int.toNat_natCast] at h3 ⊢
    have hb := Sha.bytes_take h.byt n
    have hlen : (rest.take n).length = n := by rw [List.length_take]; omega
    have hv := Rd.val_lt _ hb
    rw [hlen] at hv
    have hdg := Rd.digs_val _ hb
    rw [hlen] at hdg
    rw [sfits_sx _ n (by omega) (by omega) hv, digs_sx _ n (by omega) (by omega) hv]
    exact h.ok_step n h3 _ hdg
  · rw [h2]
    have he2 : ¬ e2 = 0 := by omega
    simp only [if_neg he2]
    exact h.err_step _ _ (fun hh => sfits_len _ _ hh _) e2 h1
theorem Form.bytes {s t : List Int} {ew : Int} {rest : List Int} {er : Int} {k : Nat} (h : Form s t ew rest er k) (z : Int) (odd : Bool) :
    Form s (Pk.put t ew true (num (strOf (Rd.ask rest er z odd).1))).1 (Pk.put t ew true (num (strOf (Rd.ask rest er z odd).1))).2 (Rd.ask rest er z odd).2.1 (Rd.ask rest er z odd).2.2 (k + 1) := by
  rw [Rd.ask]
  cases odd with
  | true =>
    simp only [if_true]
    by_cases he : er = 0
    · rw [if_pos he]; exact h.err_step _ _ (fun _ => by simp [strOf, num, nums]) 51 (Or.inr rfl)
    · rw [if_neg he, h.dead he]
      exact h.err_step _ _ (fun _ => by simp [strOf, num, nums]) er (by have := h.err; omega)
  | false =>
    simp only [Bool.false_eq_true, if_false]
    rcases Rd.take_cases rest er z.toNat h.dead h.err with ⟨rfl, h2, h3⟩ | ⟨e2, h1, h2⟩
    · rw [h3]
      exact h.ok_step z.toNat h2 _ (num_strOf _ (Sha.bytes_take h.byt _))
    · rw [h2]
      exact h.err_step _ _ (fun _ => by simp [strOf, num, nums]) e2 h1
theorem Form.text {s t : List Int} {ew : Int} {rest : List Int} {er : Int} {k : Nat} (h : Form s t ew rest er k) :
    Form s (Pk.put t ew (decide ((strOf (Rd.text rest er).1).size ≤ 255)) (((strOf (Rd.text rest er).1).size : Int) :: num (strOf (Rd.text rest er).1))).1 (Pk.put t ew (decide ((strOf (Rd.text rest er).1).size ≤ 255)) (((strOf (Rd.text rest er).1).size : Int) :: num (strOf (Rd.text rest er).1))).2 (Rd.text rest er).2.1 (Rd.text rest er).2.2 (k + 1) := by
  rw [Rd.text]
  have hbd : ∀ e2, (e2 = 50 ∨ e2 = 51) → Form s (Pk.put t ew (decide ((strOf []).size ≤ 255)) (((strOf []).size : Int) :: num (strOf []))).1 (Pk.put t ew (decide ((strOf []).size ≤ 255)) (((strOf []).size : Int) :: num (strOf []))).2 [] e2 (k + 1) := fun e2 he => h.err_step _ _ (fun _ => by simp [strOf, num, nums]) e2 he
  rcases Rd.number_cases rest er 1 h.dead h.err with ⟨rfl, _, _, h3, h4⟩ | ⟨e2, h1, h2⟩
  · rw [h4]
    simp only [show (1 : Int).toNat = 1 from rfl] at h3 ⊢
    obtain ⟨b, rest', rfl⟩ : ∃ b r, rest = b :: r := by
      cases rest with
      | nil => simp at h3
      | cons b r => exact ⟨b, r, rfl⟩
    have hb := h.byt b (by simp)
    have e1 : Rd.val ((b :: rest').take 1) = b.toNat := by simp [Rd.val]
    have e2 : (b :: rest').drop 1 = rest' := rfl
    rw [e1, e2]
    rcases Rd.take_cases rest' 0 b.toNat (fun h => absurd rfl h) (Or.inl rfl) with ⟨_, h5, h6⟩ | ⟨e3, h5, h6⟩
    · rw [h6]
      simp only
      have hl : (rest'.take b.toNat).length = b.toNat := by rw [List.length_take]; omega
      rw [size_strOf, hl, num_strOf _ (Sha.bytes_take (fun x hx => h.byt x (by simp [hx])) _), decide_eq_true (by omega : b.toNat ≤ 255)]
      exact h.ok_step (b.toNat + 1) (by simp only [List.length_cons]; omega) _ (by rw [List.take_succ_cons]; congr 1; omega)
    · rw [h6]; exact hbd e3 h5
  · rw [h2]
    have he2 : ¬ e2 = 0 := by omega
    simp only [Rd.take, if_neg he2]
    exact hbd e2 h1
theorem Form.none {s t : List Int} {ew : Int} {rest : List Int} {er : Int} {k : Nat} (h : Form s t ew rest er k) : Form s t ew rest er (k + 1) := ⟨h.same, h.err, by have := h.len; omega, h.byt, h.dead⟩
end Go.Proofs.Ytcmbklofbemclaa
