/- MacSaid: the law's walk. -/
import Derived.Test.YtheamejbfopdaaaDoorMacE
namespace Go.Proofs.YtheamejbfopdaaaDoor
open Go.RowKit

namespace Mac
theorem be_inj (L M : Nat) (hL : L < 18446744073709551616) (hM : M < 18446744073709551616) (h : Sha.be (L : Int) = Sha.be (M : Int)) : L = M := by
  simp only [Sha.be, List.cons.injEq, and_true] at h
  omega
theorem enc_inj : ∀ (a b : List (List Int)), (∀ p ∈ a, p.length < 18446744073709551616) → (∀ p ∈ b, p.length < 18446744073709551616) →
    (a.map fun p => Sha.be p.length ++ p).flatten = (b.map fun p => Sha.be p.length ++ p).flatten → a = b
  | [], [], _, _, _ => rfl
  | [], q :: qs, _, _, h => by have := congrArg List.length h; simp [Sha.length_be] at this; omega
  | p :: ps, [], _, _, h => by have := congrArg List.length h; simp [Sha.length_be] at this
  | p :: ps, q :: qs, ha, hb, h => by
    simp only [List.map_cons, List.flatten_cons, List.append_assoc] at h
    have h1 := List.append_inj h (by rw [Sha.length_be, Sha.length_be])
    have h2 := be_inj _ _ (ha p (List.mem_cons_self ..)) (hb q (List.mem_cons_self ..)) h1.1
    have h3 := List.append_inj h1.2 h2
    rw [h3.1, enc_inj ps qs (fun x hx => ha x (List.mem_cons_of_mem _ hx)) (fun x hx => hb x (List.mem_cons_of_mem _ hx)) h3.2]
theorem said_inj (use : List Int) (a b : List (List Int)) (ha : ∀ p ∈ a, p.length < 18446744073709551616) (hb : ∀ p ∈ b, p.length < 18446744073709551616) (h : said use a = said use b) : a = b := by
  rw [said_eq, said_eq] at h
  exact enc_inj a b ha hb (List.append_cancel_left h)
theorem said_part (use : List Int) (ps : List (List Int)) : ∀ p ∈ ps, p.length ≤ (said use ps).length := by
  intro p hp
  have h1 : (Sha.be p.length ++ p) ∈ ps.map fun p => Sha.be p.length ++ p := List.mem_map.2 ⟨p, hp, rfl⟩
  have h2 := flatten_mem_le h1
  rw [said_eq, List.length_append]
  rw [List.length_append] at h2
  omega
end Mac
theorem map_num_inj : ∀ (a b : List ByteArray), a.map num = b.map num → a = b
  | [], [], _ => rfl
  | [], _ :: _, h => by simp at h
  | _ :: _, [], h => by simp at h
  | x :: a, y :: b, h => by
    simp only [List.map_cons, List.cons.injEq] at h
    rw [num_inj h.1, map_num_inj a b h.2]
theorem strs_new (w : World) (T : ByteArray) (X : TypeId) : StrsAt (w.alloc (.cells #[.string T] X)) (w.alloc (.cells #[.string T] X)).heap.size (some ⟨w.heap.size, 0, none⟩) 1 [T] := by
  refine ⟨rfl, fun _ => ⟨_, _, rfl, by simp, fun i s hi => ?_⟩⟩
  have h0 : i = 0 := by have := (List.getElem?_eq_some_iff.1 hi).1; simp at this; omega
  subst h0
  obtain rfl : T = s := by simpa using hi
  rw [World.cell?_alloc_new]; rfl

/-- "use" -/
def useB : ByteArray := ⟨#[117, 115, 101]⟩
theorem said_one (T : ByteArray) : (Mac.said (num useB) [num T]).length = 12 + T.size := by
  rw [Mac.said_eq]
  simp only [List.map_cons, List.map_nil, List.flatten_cons, List.flatten_nil, List.length_append, Sha.length_be, length_num, List.length_cons, List.length_nil]
  show 3 + 1 + (8 + T.size + 0) = _
  omega

set_option maxHeartbeats 2000000 in
set_option maxRecDepth 100000 in
theorem macSaid_any (w : World) (hK : Rounds w) (sec : ByteArray) (sa : Option Addr) (n c : Nat) (one : List ByteArray) (ta : Option Addr) (m d : Nat) (two : List ByteArray) (h1 : StrsAt w w.heap.size sa n one) (h2 : StrsAt w w.heap.size ta m two) (hsec : sec.size ≤ 140737488355328)
    (hl1 : (Mac.said (num useB) (one.map num)).length ≤ 70368744177664) (hl2 : (Mac.said (num useB) (two.map num)).length ≤ 70368744177664) :
    Calls Tryd.prog 10 #[.string sec, .slice sa n c, .slice ta m d] w fun e w' => e = .returned (.bool true) ∧ Mod none_ w w' := by
  obtain ⟨γ, hγ⟩ : ∃ γ, decide (one = two) = γ := ⟨_, rfl⟩
  have hn48 : n ≤ 70368744177664 := by have h3 := Mac.said_room (num useB) (one.map num); rw [List.length_map, h1.1] at h3; omega
  have hn1 : num (strOf (Mac.said (num useB) (one.map num))) = Mac.said (num useB) (one.map num) := num_strOf _ (Mac.bytes_said (bytes_num _) (bytes_nums_map one))
  have hn2 : num (strOf (Mac.said (num useB) (two.map num))) = Mac.said (num useB) (two.map num) := num_strOf _ (Mac.bytes_said (bytes_num _) (bytes_nums_map two))
  have hz1 : (strOf (Mac.said (num useB) (one.map num))).size ≤ 70368744177664 := by rw [size_strOf]; exact hl1
  have hz2 : (strOf (Mac.said (num useB) (two.map num))).size ≤ 70368744177664 := by rw [size_strOf]; exact hl2
  have hin : strOf (Mac.said (num useB) (one.map num)) = strOf (Mac.said (num useB) (two.map num)) ↔ one = two := by
    constructor
    · intro h
      have h3 : Mac.said (num useB) (one.map num) = Mac.said (num useB) (two.map num) := by rw [← hn1, ← hn2, h]
      exact map_num_inj _ _ (Mac.said_inj _ _ _ (fun p hp => by have := Mac.said_part (num useB) _ p hp; omega) (fun p hp => by have := Mac.said_part (num useB) _ p hp; omega) h3)
    · rintro rfl; rfl
  have hc1 := fun (w' : World) (hM : Mod none_ w w') => said_any w' useB sa n c one ((h1.mod hM (fun _ _ h => h)).mono hM.size) (by omega)
  have hc2 := fun (w' : World) (hM : Mod none_ w w') => said_any w' useB ta m d two ((h2.mod hM (fun _ _ h => h)).mono hM.size) (by omega)
  have hd1 := fun (w' : World) (hM : Mod none_ w w') => derive_any w' (hK.mod hM (fun h => h)) sec useB sa n c one ((h1.mod hM (fun _ _ h => h)).mono hM.size) hsec (by omega)
  have hd2 := fun (w' : World) (hM : Mod none_ w w') => derive_any w' (hK.mod hM (fun h => h)) sec useB ta m d two ((h2.mod hM (fun _ _ h => h)).mono hM.size) hsec (by omega)
  rw [← hn1] at hd1
  rw [← hn2] at hd2
  obtain ⟨S1, hS1⟩ : ∃ S1, strOf (Mac.said (num useB) (one.map num)) = S1 := ⟨_, rfl⟩
  obtain ⟨S2, hS2⟩ : ∃ S2, strOf (Mac.said (num useB) (two.map num)) = S2 := ⟨_, rfl⟩
  rw [hS1, hS2] at hin
  rw [hS1] at hz1 hd1
  rw [hS2] at hz2 hd2
  simp only [hS1] at hc1
  simp only [hS2] at hc2
  have heq : (S1.toList == S2.toList) = γ := by rw [toList_eq_num, ← hγ]; exact decide_eq_decide.2 hin
  have H1 := Lib.hid h1; have H2 := Lib.hid h2; have HC1 := Lib.hid hc1; have HC2 := Lib.hid hc2; have HD1 := Lib.hid hd1; have HD2 := Lib.hid hd2; have HG := Lib.hid hγ; have HL1 := Lib.hid hl1
  clear h1 h2 hc1 hc2 hd1 hd2 hn1 hn2 hS1 hS2 hin hγ hl1 hl2
  go_enter Tryd.func10, Tryd.ntmps10
  go_wp2_with fail
  refine (alive2_any w hK).mono ?_
  rintro e w1 ⟨rfl, hM1⟩
  go_wp2_with fail
  refine (HC1.out w1 hM1).mono ?_
  rintro e w2 ⟨rfl, hM2⟩
  have hM2' := hM1.then hM2
  clear hM1 hM2
  go_wp2_with fail
  refine (HC2.out w2 hM2').mono ?_
  rintro e w3 ⟨rfl, hM3⟩
  have hM3' := hM2'.then hM3
  clear hM2' hM3
  go_wp2_with fail
  go_loopw [10, 11] (fun s i wr => ∃ k : Nat, k ≤ n ∧ i = .int .i64 k ∧ (∃ β, s = .bool β ∧ (β = true ↔ n = m ∧ ∀ j : Nat, j < k → one[j]? = two[j]?)) ∧ Mod none_ w wr) (fun _ i _ => n - (intOf i).toNat)
  case atStart => exact ⟨0, by omega, rfl, ⟨_, rfl, by simp; omega⟩, hM3'⟩
  case round =>
    clear hM3'
    obtain ⟨k, hk, rfl, ⟨β, rfl, hβ⟩, hM⟩ := hrel
    have hend : (k = n ∨ β = false) → β = γ := by
      intro h
      rw [← HG.out]
      have e1 := H1.out.1
      have e2 := H2.out.1
      by_cases hb : β = true
      · have h3 := hβ.1 hb
        have hkn : k = n := by rcases h with h | h; exact h; rw [hb] at h; cases h
        rw [hb]
        symm
        apply decide_eq_true
        apply List.ext_getElem?
        intro j
        by_cases hj : j < k
        · exact h3.2 j hj
        · rw [List.getElem?_eq_none (by omega), List.getElem?_eq_none (by omega)]
      · have hbf : β = false := by simpa using hb
        rw [hbf]
        symm
        apply decide_eq_false
        intro h4
        apply hb
        apply hβ.2
        subst h4
        exact ⟨by omega, fun _ _ => rfl⟩
    by_cases hgo : k < n ∧ β = true
    · obtain ⟨hlt, rfl⟩ := hgo
      have hki : (k : Int) < (n : Int) := by omega
      have h3 := hβ.1 rfl
      obtain ⟨lb, lo, rfl, hlb, hcc⟩ := H1.out.2 (by omega)
      obtain ⟨lb2, lo2, rfl, hlb2, hcc2⟩ := H2.out.2 (by omega)
      obtain ⟨s, hs⟩ : ∃ s, one[k]? = some s := ⟨_, List.getElem?_eq_getElem (by rw [H1.out.1]; exact hlt)⟩
      obtain ⟨t, ht⟩ : ∃ t, two[k]? = some t := ⟨_, List.getElem?_eq_getElem (by rw [H2.out.1]; omega)⟩
      have qs : ∀ q, (wr.drewN q).cell? ⟨lb, lo + k, none⟩ = some (.string s) := fun q => hM.cellS (hcc k s hs) (fun h => h)
      have qt : ∀ q, (wr.drewN q).cell? ⟨lb2, lo2 + k, none⟩ = some (.string t) := fun q => hM.cellS (hcc2 k t ht) (fun h => h)
      have qs0 := qs 0
      have qt0 := qt 0
      have hst := toList_eq_num s t
      obtain ⟨β2, hβ2⟩ : ∃ β2, decide (s = t) = β2 := ⟨_, rfl⟩
      rw [hβ2] at hst
      have hkm : (k : Int) < (m : Int) := by omega
      have hnew : β2 = true ↔ n = m ∧ ∀ j : Nat, j < k + 1 → one[j]? = two[j]? := by
        rw [← hβ2, decide_eq_true_iff]
        constructor
        · rintro rfl
          refine ⟨h3.1, fun j hj => ?_⟩
          by_cases hjk : j = k
          · subst hjk; rw [hs, ht]
          · exact h3.2 j (by omega)
        · intro h5
          have := h5.2 k (by omega)
          rw [hs, ht] at this
          exact Option.some.inj this
      have HN := Lib.hid hnew
      clear hnew hβ2 hs ht hcc hcc2 h3 hβ hend
      go_wp2_with fail
      go_quiet (fail)
      go_wp2_with fail
      go_roundw
      case rel => exact ⟨k + 1, by omega, by go_num, ⟨_, rfl, HN.out⟩, hM.drewN _⟩
      case measure => simp [intOf]; omega
    · have hg : β = γ := hend (by by_cases hb : β = true; exact Or.inl (by have : ¬ k < n := fun h => hgo ⟨h, hb⟩; omega); exact Or.inr (by simpa using hb))
      rw [← hg] at heq
      have hmain : (S1 = S2 ∧ β = true ∧ ¬ k < n) ∨ (S1 ≠ S2 ∧ β = false ∧ k < n) ∨ (S1 ≠ S2 ∧ β = false ∧ ¬ k < n) := by
        rw [toList_eq_num] at heq
        by_cases hS : S1 = S2
        · have hb : β = true := by rw [← heq]; exact decide_eq_true hS
          exact Or.inl ⟨hS, hb, fun h => hgo ⟨h, hb⟩⟩
        · have hb : β = false := by rw [← heq]; exact decide_eq_false hS
          by_cases hlt : k < n
          · exact Or.inr (Or.inl ⟨hS, hb, hlt⟩)
          · exact Or.inr (Or.inr ⟨hS, hb, hlt⟩)
      have hi1 : k < n → (k : Int) < (n : Int) := fun h => by omega
      have hi2 : ¬ k < n → ¬ (k : Int) < (n : Int) := fun h => by omega
      clear hg hend hβ hgo HG
      rcases hmain with ⟨rfl, rfl, hlt⟩ | ⟨hS, rfl, hlt⟩ | ⟨hS, rfl, hlt⟩
      all_goals (first | have hki := hi2 hlt | have hki := hi1 hlt)
      all_goals clear hi1 hi2
      all_goals (
        go_wp2_with fail
        refine (HD1.out _ hM).mono ?_
        rintro e w4 ⟨rfl, hM4⟩
        have hM4' := hM.then hM4
        clear hM hM4
        go_wp2_with fail
        refine (HD2.out _ hM4').mono ?_
        rintro e w5 ⟨rfl, hM5⟩
        have hM5' := hM4'.then hM5
        have hK5 := hK.mod hM5' (fun h => h)
        clear hM4' hM5
        go_wp2_with fail
        refine (tag_b _ hK5 _ _ _ rfl hsec (by omega)).mono ?_
        rintro e w6 ⟨rfl, hM6⟩
        have hM6' := hM5'.then hM6
        have hK6 := hK5.mod hM6 (fun h => h)
        clear hM5' hM6 hK5
        go_wp2_with fail
        refine (tag_b _ hK6 _ _ _ rfl hsec (by omega)).mono ?_
        rintro e w7 ⟨rfl, hM7⟩
        have hM7' := hM6'.then hM7
        clear hM6' hM7 hK6 HC1 HC2 HD1 HD2 heq
        go_wp2_with fail
        clear hlt hki
        go_loopw [14, 15] (fun tx i wq => ∃ (k : Nat) (T : ByteArray), k ≤ n ∧ i = .int .i64 k ∧ tx = .string T ∧ T.size ≤ (Mac.said (num useB) ((one.map num).take k)).length ∧ Mod none_ w wq) (fun _ i _ => n - (intOf i).toNat)
        case atStart => exact ⟨0, ⟨#[]⟩, by omega, rfl, rfl, Nat.zero_le _, hM7'⟩
        case round =>
          clear hM7' hk
          obtain ⟨i, T, hi, rfl, rfl, hT, hMq⟩ := hrel
          have hTk := Mac.said_take_le (num useB) (one.map num) i
          have hL1 := HL1.out
          by_cases hlt : i < n
          · obtain ⟨lb, lo, rfl, hlb, hcc⟩ := H1.out.2 (by omega)
            obtain ⟨s, hs⟩ : ∃ s, one[i]? = some s := ⟨_, List.getElem?_eq_getElem (by rw [H1.out.1]; exact hlt)⟩
            have qs := hMq.cellS (hcc i s hs) (fun h => h)
            have hsd := congrArg List.length (Mac.said_take (num useB) (one.map num) i (num s) (by rw [List.getElem?_map, hs]; rfl))
            rw [List.length_append, List.length_append, Sha.length_be, length_num] at hsd
            have hTi1 := Mac.said_take_le (num useB) (one.map num) (i + 1)
            have hadd := run_cat T s (by omega)
            have hTs : (T ++ s).size ≤ (Mac.said (num useB) ((one.map num).take (i + 1))).length := by rw [ByteArray.size_append]; omega
            have HTS := Lib.hid hTs
            have hki : (i : Int) < (n : Int) := by omega
            have hi1 : (i : Int) + 1 ≤ 9223372036854775807 := by omega
            clear hcc hs hsd hTs hT hTk hTi1 hL1
            go_wp2_with fail
            go_roundw
            case rel => exact ⟨i + 1, _, by omega, by go_num, rfl, HTS.out, hMq⟩
            case measure => simp [intOf]; omega
          · have hki : ¬ (i : Int) < (n : Int) := by omega
            have hTs : T.size ≤ 70368744177664 := by omega
            have hlS : (Mac.said (num useB) [num T]).length ≤ 140737488355328 := by rw [said_one]; omega
            have hnS : num (strOf (Mac.said (num useB) [num T])) = Mac.said (num useB) [num T] := num_strOf _ (Mac.bytes_said (bytes_num _) (bytes_nums_map [T]))
            have hzS : (strOf (Mac.said (num useB) [num T])).size ≤ 140737488355328 := by rw [size_strOf]; exact hlS
            have hde := fun (wx : World) (hM : Mod none_ w wx) => derive_any (wx.alloc (.cells #[.string T] 9)) (hK.mod (hM.alloc _) (fun h => h)) sec useB (some ⟨wx.heap.size, 0, none⟩) 1 1 [T] (strs_new wx T _) hsec hlS
            have hsa := fun (wx : World) => said_any (wx.alloc (.cells #[.string T] 9)) useB (some ⟨wx.heap.size, 0, none⟩) 1 1 [T] (strs_new wx T _) hlS
            simp only [List.map_cons, List.map_nil] at hde hsa
            rw [← hnS] at hde
            obtain ⟨S3, hS3⟩ : ∃ S3, strOf (Mac.said (num useB) [num T]) = S3 := ⟨_, rfl⟩
            rw [hS3] at hzS hde
            simp only [hS3] at hsa
            have HDE := Lib.hid hde; have HSA := Lib.hid hsa
            clear hT hTk hL1 hlS hnS hde hsa hS3
            go_wp2_with fail
            refine (HDE.out wr hMq).mono ?_
            rintro e w8 ⟨rfl, hM8⟩
            have hM8' := (hMq.alloc _).then hM8
            clear hMq hM8
            go_wp2_with fail
            refine (HSA.out w8).mono ?_
            rintro e w9 ⟨rfl, hM9⟩
            have hM9' := (hM8'.alloc _).then hM9
            have hK9 := hK.mod hM9' (fun h => h)
            clear hM8' hM9
            go_wp2_with fail
            refine (tag_b _ hK9 _ _ _ rfl hsec hzS).mono ?_
            rintro e w10 ⟨rfl, hM10⟩
            have hM10' := hM9'.then hM10
            clear hM9' hM10
            go_wp2_with fail
            go_ret
            exact ⟨rfl, hM10'⟩)
end Go.Proofs.YtheamejbfopdaaaDoor
