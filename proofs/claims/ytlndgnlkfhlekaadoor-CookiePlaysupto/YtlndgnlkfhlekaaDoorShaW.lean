/- SHA walks: Write. -/
import Derived.Test.YtlndgnlkfhlekaaDoorShaM
import Derived.Test.YtlndgnlkfhlekaaDoorShaT
namespace Go.Proofs.YtlndgnlkfhlekaaDoor
open Go.RowKit
theorem under_b28 : Tryd.prog.underlying 63 = some (.slice 5) := by kernel_rfl

/-- block b is a Hash that has taken in t (its own count of bytes says N) -/
def HashAt (w : World) (b : Nat) (t : List Int) (N : Int) (T : TypeId) : Prop := ∃ v blk a, Sha.Holds t v blk a ∧ Blk w b (Sha.hcells v blk (a : Int) N) T
/-- the table of the steps lies where it must -/
def Rounds (w : World) : Prop := ∀ i, i < 64 → w.cell? ⟨0, i, none⟩ = some (.int .u32 (Sha.g Sha.K i))
theorem Rounds.mod {S : Nat → Prop} {w w' : World} (h : Rounds w) (hM : Mod S w w') (hn : ¬ S 0) : Rounds w' := fun i hi => hM.cellS (h i hi) hn

set_option maxHeartbeats 2000000 in
set_option maxRecDepth 100000 in
theorem write_any (w : World) (b : Nat) (t p : List Int) (N : Int) (T : TypeId) (hH : HashAt w b t N T) (hK : Rounds w) (hbK : b ≠ 0) (sa : Option Addr) (pb po cap : Nat) (hsa : 0 < p.length → sa = some ⟨pb, po, none⟩) (hpb : pb ≠ b) (hcap : p.length ≤ cap)
    (hp : ∀ j, j < p.length → w.cell? ⟨pb, po + j, none⟩ = some (.int .u8 (Sha.g p j))) (hby : Sha.bytes p) (hpl : p.length ≤ 140737488355328) :
    Calls Tryd.prog 36 #[.pointer (some ⟨b, 0, none⟩), .slice sa p.length cap] w fun e w' => e = .returned (.tuple #[]) ∧ Mod (only b) w w' ∧ HashAt w' b (t ++ p) ((N + p.length) % 18446744073709551616) T := by
  obtain ⟨v, blk, a, hh, hB⟩ := hH
  have q73 : w.cell? ⟨b, 73, none⟩ = some (.int .u64 N) := hB.cell (Sha.get_h_n v blk a N hh.len)
  have f73 : w.frozen? ⟨b, 73, none⟩ = false := hB.frozen 73
  go_enter Tryd.func36, Tryd.ntmps36
  go_wp2
  have hB1 : Blk (w.setCell ⟨b, 73, none⟩ (.int .u64 (IntKind.u64.wrap (N + (p.length : Int))))) b (Sha.hcells v blk a (IntKind.u64.wrap (N + (p.length : Int)))) T := (hB.set 73 _).cs (Sha.set_h_n v blk a N hh.len _)
  have hM1 : Mod (only b) w (w.setCell ⟨b, 73, none⟩ (.int .u64 (IntKind.u64.wrap (N + (p.length : Int))))) := (Mod.refl _ _).setCell (fun _ => only_self b) _
  have hwr : IntKind.u64.wrap (N + (p.length : Int)) = (N + p.length) % 18446744073709551616 := by simp [IntKind.wrap, IntKind.bits, IntKind.signed]
  generalize IntKind.u64.wrap (N + (p.length : Int)) = N' at hB1 hM1 hwr ⊢
  generalize World.setCell w ⟨b, 73, none⟩ (.int .u64 N') = w1 at hB1 hM1 ⊢
  have HN := Lib.hid hwr
  have HP := Lib.hid hp
  clear hwr hp q73 f73
  go_loopw [1] (fun s wr => ∃ (m n : Nat) (a' : Option Addr) (c' : Nat), m + n = p.length ∧ s = .slice a' n c' ∧ n ≤ c' ∧ (0 < n → a' = some ⟨pb, po + m, none⟩) ∧ HashAt wr b (t ++ p.take m) N' T ∧ Mod (only b) w wr) (fun s _ => sliceLen s)
  case atStart => exact ⟨0, p.length, sa, cap, by omega, rfl, hcap, hsa, by rw [List.take_zero, List.append_nil]; exact ⟨v, blk, a, hh, hB1⟩, hM1⟩
  case round =>
    clear hB1 hM1 hh hB hsa hcap
    obtain ⟨m, n, a', c', hmn, rfl, hc', ha', ⟨v, blk, a, hh, hB⟩, hM⟩ := hrel
    by_cases hn : 0 < n
    · obtain rfl := ha' hn
      have ha64 := hh.lt
      have q72 : wr.cell? ⟨b, 72, none⟩ = some (.int .i64 a) := hB.cell (Sha.get_h_at v blk a N' hh.len)
      have hsl := fun wx => sliceAt_l (P := Tryd.prog) 68 5 64 under_blk size_u8 b 8 a (a : Int) rfl ha64 wx
      have hpl' : n ≤ 140737488355328 := by omega
      clear ha'
      obtain ⟨k, hk1, hk2, hk3⟩ : ∃ k, k = Nat.min n (64 - a) ∧ 0 < k ∧ a + k ≤ 64 := ⟨_, rfl, by show 0 < min n (64 - a); omega, by have : Nat.min n (64 - a) = min n (64 - a) := rfl; omega⟩
      have hkn : k ≤ n := by rw [hk1]; exact Nat.min_le_left _ _
      obtain ⟨q, hq⟩ : ∃ q, q = (p.drop m).take k := ⟨_, rfl⟩
      have hql : q.length = k := by rw [hq]; simp; omega
      have hqb : Sha.bytes q := by rw [hq]; exact Sha.bytes_take (Sha.bytes_drop hby _) _
      have hqs : ∀ j x, (Sha.bcells q)[j]? = some x → wr.cell? ((⟨pb, po + m, none⟩ : Addr).add j) = some x := by
        intro j x hj
        have hjk : j < k := by
          by_cases h : j < k
          · exact h
          · rw [List.getElem?_eq_none (by simp [Sha.bcells, hql]; omega)] at hj; cases hj
        have e : (⟨pb, po + m, none⟩ : Addr).add j = ⟨pb, po + (m + j), none⟩ := by unfold Addr.add; split <;> simp_all <;> omega
        rw [e, hM.cellS (HP.out (m + j) (by omega)) (not_only hpb), ← hj]
        have e2 : q[j]? = p[m + j]? := by rw [hq, List.getElem?_take, if_pos hjk, List.getElem?_drop]
        rw [Sha.bcells, List.getElem?_map, e2, Sha.g, List.getElem?_eq_getElem (by omega)]; rfl
      obtain ⟨a2, ha2, hsl2⟩ := slice_from (P := Tryd.prog) 63 5 under_b28 size_u8 pb (po + m) n c' k hkn hc'
      have HK1 := Lib.hid hk1; have HQ := Lib.hid hq; have HQL := Lib.hid hql; have HQS := Lib.hid hqs; have HA2 := Lib.hid ha2; have HMN := Lib.hid hmn
      clear hk1 hq hql hqs ha2 hmn
      go_wp2
      go_region_law (refine step_copy_n rfl (.tmp 25) (.tmp 26) 63 63 rfl 5 under_b28 size_u8 b (8 + a) (64 - a) (64 - a) ⟨pb, po + m, none⟩ n c' rfl rfl (Sha.hcells v blk a N') _ hB (Sha.bcells q) k (by rw [Sha.bcells, List.length_map]; exact HQL.out) HK1.out HQS.out (by have := hh.len; simp [Sha.hcells, Sha.hl, Sha.wcells, Sha.bcells, Sha.V.list]; omega) (Sha.one_b _) ?_)
      have hB2 : Blk (wr.drew.setRow b (splice (Sha.hcells v blk (a : Int) N') (8 + a) (Sha.bcells q)).toArray) b (Sha.hcells v (splice blk a q) (a : Int) N') T := (hB.drew.row _).cs (Sha.splice_hl v.list blk q a N' a rfl (by rw [HQL.out, hh.len]; omega))
      have hM2 : Mod (only b) w (wr.drew.setRow b (splice (Sha.hcells v blk (a : Int) N') (8 + a) (Sha.bcells q)).toArray) := hM.drew.setRow (fun _ => only_self b) _
      generalize World.setRow _ _ _ = w2 at hB2 hM2 ⊢
      obtain ⟨blk2, hbk2⟩ : ∃ x, splice blk a q = x := ⟨_, rfl⟩
      have hl2 : blk2.length = 64 := by rw [← hbk2, Sha.splice_len _ _ _ (by rw [HQL.out, hh.len]; omega)]; exact hh.len
      have hb2 : Sha.bytes blk2 := by rw [← hbk2]; exact Sha.splice_bytes _ hh.byt hqb
      rw [hbk2] at hB2
      have HBK := Lib.hid hbk2
      clear hbk2 hB hM q72 HQS hsl
      have q72 : w2.cell? ⟨b, 72, none⟩ = some (.int .i64 a) := hB2.cell (Sha.get_h_at v blk2 a N' hl2)
      have f72 : w2.frozen? ⟨b, 72, none⟩ = false := hB2.frozen 72
      have hB3 : Blk (w2.setCell ⟨b, 72, none⟩ (.int .i64 ((a : Int) + (k : Int)))) b (Sha.hcells v blk2 ((a : Int) + (k : Int)) N') T := (hB2.set 72 _).cs (Sha.set_h_at v blk2 a N' hl2 _)
      have hM3 : Mod (only b) w (w2.setCell ⟨b, 72, none⟩ (.int .i64 ((a : Int) + (k : Int)))) := hM2.setCell (fun _ => only_self b) _
      have HB3 := Lib.hid hB3; have HM3 := Lib.hid hM3; have HHH := Lib.hid hh; have HL2 := Lib.hid hl2
      clear hB2 hM2 hl2 hB3 hM3 hh
      by_cases hak : a + k = 64
      · have he : ((a : Int) + (k : Int) == 64) = true := by simp; omega
        have HAK := Lib.hid hak; clear hak
        go_wp2_with fail
        refine (mix_any _ b v blk2 _ N' T HB3.out HHH.out.ok HL2.out hb2 (hK.mod HM3.out (fun h => hbK h.symm))).mono ?_
        rintro e w4 ⟨rfl, hM4, hB4⟩
        have q72' : w4.cell? ⟨b, 72, none⟩ = some (.int .i64 ((a : Int) + (k : Int))) := hB4.cell (Sha.get_h_at _ blk2 _ N' HL2.out)
        have f72' : w4.frozen? ⟨b, 72, none⟩ = false := hB4.frozen 72
        go_wp2
        go_roundw
        case rel =>
          refine ⟨m + k, n - k, a2, c' - k, by have := HMN.out; omega, rfl, by omega, fun h => by rw [HA2.out h, Nat.add_assoc], ⟨Sha.mix v blk2, blk2, 0, ?_, (hB4.set 72 _).cs (Sha.set_h_at _ blk2 _ N' HL2.out 0)⟩, (HM3.out.trans hM4 (fun _ _ h => h)).setCell (fun _ => only_self b) _⟩
          have h := HHH.out.full q hqb (by rw [HQL.out]; exact HAK.out)
          rw [HBK.out, HQ.out, List.append_assoc, ← List.take_add] at h
          exact h
        case measure => simp [sliceLen]; omega
      · have he : ((a : Int) + (k : Int) == 64) = false := by simp; omega
        go_wp2
        go_roundw
        case rel =>
          refine ⟨m + k, n - k, a2, c' - k, by have := HMN.out; omega, rfl, by omega, fun h => by rw [HA2.out h, Nat.add_assoc], ⟨v, blk2, a + k, ?_, HB3.out.cs (by rw [Int.natCast_add])⟩, HM3.out⟩
          have h := HHH.out.feed q hqb (by rw [HQL.out]; omega)
          rw [HBK.out, HQL.out, HQ.out, List.append_assoc, ← List.take_add] at h
          exact h
        case measure => simp [sliceLen]; omega
    · have hm : m = p.length := by omega
      have hres : HashAt wr b (t ++ p) ((N + p.length) % 18446744073709551616) T := by
        rw [← HN.out]
        rw [hm, List.take_length] at hh
        exact ⟨v, blk, a, hh, hB⟩
      have HRES := Lib.hid hres
      clear hm hres hh hB ha'
      go_wp2
      go_end0
      exact ⟨rfl, hM, HRES.out⟩

theorem write_n (w : World) (b : Nat) (t p : List Int) (N : Int) (T : TypeId) (n : Nat) (hn : p.length = n) (hH : HashAt w b t N T) (hK : Rounds w) (hbK : b ≠ 0) (sa : Option Addr) (pb po cap : Nat) (hsa : 0 < n → sa = some ⟨pb, po, none⟩) (hpb : pb ≠ b) (hcap : n ≤ cap)
    (hp : ∀ j, j < n → w.cell? ⟨pb, po + j, none⟩ = some (.int .u8 (Sha.g p j))) (hby : Sha.bytes p) (hpl : n ≤ 140737488355328) :
    Calls Tryd.prog 36 #[.pointer (some ⟨b, 0, none⟩), .slice sa n cap] w fun e w' => e = .returned (.tuple #[]) ∧ Mod (only b) w w' ∧ HashAt w' b (t ++ p) ((N + n) % 18446744073709551616) T := by
  subst hn
  exact write_any w b t p N T hH hK hbK sa pb po cap hsa hpb hcap hp hby hpl
end Go.Proofs.YtlndgnlkfhlekaaDoor
