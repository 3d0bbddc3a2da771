/- BoardBack: the law's walk. -/
import Derived.Test.YtlndgnlkfhlekaaBdX
namespace Bd
theorem bytes_nat {l : List Int} (h : ∀ e ∈ l, e = 10 ∨ isCell e) : (∀ b ∈ bytes l, b.toNat < 128) ∧ (bytes l).map (fun b => (b.toNat : Int)) = l := by
  induction l with
  | nil => exact ⟨by simp [bytes], rfl⟩
  | cons e r ih =>
    have ih := ih (fun x hx => h x (by simp [hx]))
    have he : ((UInt8.ofNat e.toNat).toNat : Int) = e ∧ (UInt8.ofNat e.toNat).toNat < 128 := by
      rcases h e (by simp) with rfl | h
      · decide
      · exact ⟨(cell_byte h).1.symm, (cell_byte h).2⟩
    refine ⟨fun b hb => ?_, ?_⟩
    · rcases List.mem_cons.1 hb with rfl | hb
      · exact he.2
      · exact ih.1 b hb
    · show ((UInt8.ofNat e.toNat).toNat : Int) :: (bytes r).map (fun b => (b.toNat : Int)) = e :: r
      rw [he.1, ih.2]
theorem txt_cells {W H : Nat} {E : List Int} (h : ∀ e ∈ E, isCell e) : ∀ e ∈ txt W H E, e = 10 ∨ isCell e := by
  intro e he
  obtain ⟨l, hl, he⟩ := List.mem_flatMap.1 he
  rcases List.mem_append.1 he with he | he
  · exact Or.inr (rows_cell h l hl e he)
  · exact Or.inl (by simpa using he)
theorem runes_text {W H : Nat} {E : List Int} (h : Fine W H E) : runes (text W H E) = txt W H E := by
  have hb := bytes_nat (txt_cells (W := W) (H := H) h.cell)
  rw [runes_ascii (text W H E) hb.1]
  exact hb.2
theorem read_text {W H : Nat} {E : List Int} (h : Fine W H E) : read (runes (text W H E)) = .board W H E := by rw [runes_text h, read_txt h]
theorem acc_size {W H : Nat} {E : List Int} (hl : E.length = W * H) : ∀ y, y ≤ H → (acc W H E y 0).length = y * (W + 1) := by
  intro y
  induction y with
  | zero => intro _; rw [acc_zero]; simp
  | succ y ih =>
    intro hy
    have h1 : (row W E y).length = W := rows_len hl _ (by unfold rows; exact List.mem_map.2 ⟨y, List.mem_range.2 (by omega), rfl⟩)
    have h2 : (acc W H E y W).length = (acc W H E y 0).length + W := by
      unfold acc
      rw [List.length_append, List.length_append, List.length_take, List.length_take, h1]
      simp
    rw [acc_line (by omega) hl, List.length_append, h2, ih (by omega), Nat.succ_mul]
    simp
    omega
theorem txt_size {W H : Nat} {E : List Int} (hl : E.length = W * H) : (txt W H E).length = H * (W + 1) := by rw [← acc_all, acc_size hl H (Nat.le_refl _)]
theorem text_size {W H : Nat} {E : List Int} (hl : E.length = W * H) : (text W H E).size = H * (W + 1) := by
  show (bytes (txt W H E)).toArray.size = _
  rw [List.size_toArray, bytes, List.length_map, txt_size hl]
theorem txt_get {W H : Nat} {E : List Int} (hl : E.length = W * H) {y x : Nat} (hy : y < H) (hx : x < W) : (txt W H E)[y * (W + 1) + x]? = E[y * W + x]? := by
  have h1 : (rows W H E)[y]? = some (row W E y) := by unfold rows; rw [List.getElem?_map, List.getElem?_range hy]; rfl
  have h2 : (row W E y).length = W := rows_len hl _ (List.mem_of_getElem? h1)
  have hs : txt W H E = acc W H E y 0 ++ ((row W E y ++ [10]) ++ ((rows W H E).drop (y + 1)).flatMap fun l => l ++ [10]) := by
    unfold txt acc
    rw [List.take_zero, List.append_nil]
    conv => lhs; rw [← List.take_append_drop y (rows W H E)]
    rw [List.flatMap_append]
    congr 1
    rw [List.drop_eq_getElem_cons (by have := (List.getElem?_eq_some_iff.1 h1).1; exact this), List.flatMap_cons]
    have := (List.getElem?_eq_some_iff.1 h1).2
    rw [this]
  rw [hs, List.getElem?_append_right (by rw [acc_size hl y (by omega)]; omega), acc_size hl y (by omega), show y * (W + 1) + x - y * (W + 1) = x by omega, List.append_assoc, List.getElem?_append_left (by omega), row_get hx]
theorem text_get {W H : Nat} {E : List Int} (hl : E.length = W * H) (hc : ∀ e ∈ E, isCell e) {y x : Nat} (hy : y < H) (hx : x < W) {e : Int} (he : E[y * W + x]? = some e) : ∃ b, (text W H E).data[y * (W + 1) + x]? = some b ∧ (b.toNat : Int) = e := by
  have h := txt_get hl hy hx
  rw [he] at h
  refine ⟨UInt8.ofNat e.toNat, ?_, (cell_byte (hc e (List.mem_of_getElem? he))).1.symm⟩
  show (bytes (txt W H E)).toArray[y * (W + 1) + x]? = _
  rw [List.getElem?_toArray, bytes, List.getElem?_map, h]
  rfl
theorem rim_wall {W H : Nat} {E : List Int} (hf : Fine W H E) {x y : Int} (h : x ≤ 0 ∨ y ≤ 0 ∨ (W : Int) - 1 ≤ x ∨ (H : Int) - 1 ≤ y) : cellOf W H E x y = 35 := by
  by_cases ho : x < 0 ∨ y < 0 ∨ (W : Int) ≤ x ∨ (H : Int) ≤ y
  · exact cellOf_out ho
  · have hw := hf.w3; have hh := hf.h3
    obtain ⟨x, rfl⟩ : ∃ n : Nat, x = n := ⟨x.toNat, by omega⟩
    obtain ⟨y, rfl⟩ : ∃ n : Nat, y = n := ⟨y.toNat, by omega⟩
    have h1 : (y * W + x) % W = x := by rw [Nat.mul_add_mod_self_right, Nat.mod_eq_of_lt (by omega)]
    have h2 : (y * W + x) / W = y := by rw [Nat.mul_comm, Nat.mul_add_div (by omega), Nat.div_eq_of_lt (by omega)]; omega
    have hxy : y * W + x < W * H := by
      have h4 : (y + 1) * W ≤ H * W := Nat.mul_le_mul_right W (by omega)
      rw [Nat.succ_mul, Nat.mul_comm H W] at h4
      omega
    have hr : rim W H (y * W + x) := by unfold rim; rw [h1, h2]; omega
    have := cellOf_at hf.len (hf.rim _ hxy hr)
    rw [h1, h2] at this
    exact this
theorem at_mid (W H : Nat) (E : List Int) (x y : Int) : atOf W H E (x * 524288 + 5) (y * 524288 + 524288 - 1) = cellOf W H E x y := by
  unfold atOf
  have n1 : num (x * 524288 + 5) = x := by unfold num; omega
  have n2 : num (y * 524288 + 524288 - 1) = y := by unfold num; omega
  rw [n1, n2]
end Bd
namespace Go.Proofs.Ytlndgnlkfhlekaa
open Go.RowKit

/-- two boards alike, in one world -/
structure Two (w : World) (b k W H : Nat) (E : List Int) (q : World) : Prop where
  one : BrdP q b W H E
  two : BrdP q k W H E
  m : Mod none_ w q
theorem Two.then {w q q' : World} {b k W H : Nat} {E : List Int} (h : Two w b k W H E q) (hM : Mod none_ q q') : Two w b k W H E q' := ⟨h.one.none hM, h.two.none hM, h.m.then hM⟩
set_option maxHeartbeats 8000000 in
set_option maxRecDepth 100000 in
theorem boardBack_any (w : World) (s : ByteArray) (hs : s.size ≤ 9223372036854775807) :
    Calls Try.prog 5 #[.string s] w fun e w' => e = .returned (.bool true) ∧ Mod none_ w w' := by
  obtain ⟨RR, hRR⟩ : ∃ RR, Bd.read (Bd.runes s) = RR := ⟨_, rfl⟩
  go_enter Try.func5, Try.ntmps5
  go_wp2_with fail
  refine (alive14_any w).mono ?_
  rintro r w1 ⟨rfl, hM1⟩
  have hp := parse_any w1 s hs
  rw [hRR] at hp
  have HP := Lib.hid hp; have HM1 := Lib.hid hM1
  clear hp hM1 hRR
  go_wp2_with fail
  refine HP.out.mono ?_
  rintro r w2 ⟨hpp, hM2⟩
  have HM2 := Lib.hid (HM1.out.then hM2)
  clear hM2 HP
  cases RR with
  | bad =>
    obtain rfl := hpp
    go_wp2
    go_ret
    exact ⟨rfl, HM2.out⟩
  | place =>
    obtain rfl := hpp
    go_wp2
    go_ret
    exact ⟨rfl, HM2.out⟩
  | board W H E =>
    obtain ⟨b, rfl, hb, hB⟩ := hpp
    have hF := hB.fine
    have HB := Lib.hid hB; have HF := Lib.hid hF
    have hw64 := hF.w64; have hh64 := hF.h64; have hw3 := hF.w3; have hh3 := hF.h3
    have hpr := print_any w2 hB
    have hrt := Bd.read_text hF
    have hsz := Bd.text_size hF.len
    have hget := fun (y x : Nat) (hy : y < H) (hx : x < W) (e : Int) (he : E[y * W + x]? = some e) => Bd.text_get hF.len hF.cell hy hx he
    obtain ⟨TX, hTX⟩ : ∃ TX, Bd.text W H E = TX := ⟨_, rfl⟩
    have hpr2 : ∀ q k, BrdP q k W H E → Calls Try.prog 13 #[.pointer (some ⟨k, 0, none⟩)] q fun e w' => e = .returned (.string TX) ∧ Mod none_ q w' := fun q k h => by rw [← hTX]; exact print_any q h
    rw [hTX] at hpr hrt hsz
    simp only [hTX] at hget
    have hN : H * (W + 1) ≤ 64 * 65 := Nat.mul_le_mul hh64 (by omega)
    have emN : IntKind.i64.wrap ((H : Int) * ((W : Int) + 1)) = ((H * (W + 1) : Nat) : Int) := by
      have : (H : Int) * ((W : Int) + 1) = ((H * (W + 1) : Nat) : Int) := by rw [Int.natCast_mul]; rfl
      rw [this, IntKind.wrap_i64]; omega
    obtain ⟨N, hNN⟩ : ∃ N, H * (W + 1) = N := ⟨_, rfl⟩
    rw [hNN] at hsz emN hN
    have hTs : TX.size ≤ 9223372036854775807 := by omega
    have HPR := Lib.hid hpr; have HRT := Lib.hid hrt; have HSZ := Lib.hid hsz; have HGET := Lib.hid hget; have HPR2 := Lib.hid hpr2; have HNN := Lib.hid hNN
    clear hB hF hpr hrt hsz hget hTX hNN hpr2
    go_wp2_with fail
    refine HPR.out.mono ?_
    rintro r w3 ⟨rfl, hM3⟩
    have HB3 := Lib.hid (HB.out.none hM3); have HM3 := Lib.hid (HM2.out.then hM3)
    have hp2 := parse_any w3 TX hTs
    rw [HRT.out] at hp2
    have HP2 := Lib.hid hp2
    clear hM3 hp2
    go_wp2_with fail
    refine HP2.out.mono ?_
    rintro r w4 ⟨⟨k, rfl, hk, hK⟩, hM4⟩
    have HB4 := Lib.hid (HB3.out.none hM4); have HM4 := Lib.hid (HM3.out.then hM4); have HK4 := Lib.hid hK
    clear hM4 hK HP2
    go_wp2_with fail
    refine (HPR2.out _ _ HK4.out).mono ?_
    rintro r w5 ⟨rfl, hM5⟩
    have HT5 := Lib.hid (Two.mk (HB4.out.none hM5) (HK4.out.none hM5) (HM4.out.then hM5))
    clear hM5
    go_wp2_with fail
    refine (size_any w5 HT5.out.one).mono ?_
    rintro r w6 ⟨rfl, hM6⟩
    have HT6 := Lib.hid (HT5.out.then hM6)
    clear hM6
    go_wp2_with fail
    refine (size_any w6 HT6.out.two).mono ?_
    rintro r w7 ⟨rfl, hM7⟩
    have HT7 := Lib.hid (HT6.out.then hM7)
    clear hM7
    have hsz := HSZ.out
    go_upto_region 14 with fail
    clear hsz
    go_wp2_with fail
    go_loopw [12] (fun u wr => ∃ y : Int, u = .int .i64 y ∧ -1 ≤ y ∧ y ≤ (H : Int) + 1 ∧ Two w b k W H E wr) (fun u _ => ((H : Int) + 1 - intOf u).toNat)
    case atStart => exact ⟨-1, rfl, by omega, by omega, HT7.out⟩
    case round =>
      obtain ⟨y, rfl, hy1, hy2, hT⟩ := hrel
      have HT := Lib.hid hT
      clear hT
      by_cases hyH : y ≤ (H : Int)
      · go_wp2_with fail
        go_loopw [13] (fun u wz => ∃ x : Int, u = .int .i64 x ∧ -1 ≤ x ∧ x ≤ (W : Int) + 1 ∧ Two w b k W H E wz) (fun u _ => ((W : Int) + 1 - intOf u).toNat)
        case atStart => exact ⟨-1, rfl, by omega, by omega, HT.out⟩
        case round =>
          obtain ⟨x, rfl, hx1, hx2, hTz⟩ := hrel
          have HTz := Lib.hid hTz
          clear hTz
          by_cases hxW : x ≤ (W : Int)
          · have hcl := fun (q : World) (j : Nat) (hB : BrdP q j W H E) => cellat_any q hB x y
            have hat : ∀ (q : World) (j : Nat), BrdP q j W H E → Calls Try.prog 19 #[.pointer (some ⟨j, 0, none⟩), .agg #[.int .i64 (x * 524288 + 5), .int .i64 (y * 524288 + 524288 - 1)]] q fun e w' => e = .returned (.int .i32 (Bd.cellOf W H E x y)) ∧ Mod none_ q w' := fun q j hB => (at_any q hB _ _ (by unfold Bd.I64; omega) (by unfold Bd.I64; omega)).mono (by rintro r w' ⟨rfl, hN⟩; exact ⟨by rw [Bd.at_mid], hN⟩)
            have hso : ∀ (q : World) (j : Nat), BrdP q j W H E → Calls Try.prog 21 #[.pointer (some ⟨j, 0, none⟩), .agg #[.int .i64 (x * 524288 + 5), .int .i64 (y * 524288 + 524288 - 1)]] q fun e w' => e = .returned (.bool (Bd.cellOf W H E x y == 35)) ∧ Mod none_ q w' := fun q j hB => (solid_any q hB _ _ (by unfold Bd.I64; omega) (by unfold Bd.I64; omega)).mono (by rintro r w' ⟨rfl, hN⟩; exact ⟨by rw [Bd.at_mid]; rfl, hN⟩)
            have hrim : (x ≤ 0 ∨ y ≤ 0 ∨ (W : Int) - 1 ≤ x ∨ (H : Int) - 1 ≤ y) → Bd.cellOf W H E x y = 35 := Bd.rim_wall HF.out
            have hins : (0 ≤ x ∧ 0 ≤ y ∧ x < (W : Int) ∧ y < (H : Int)) → ∃ (p m : Nat), IntKind.i64.wrap (y * ((W : Int) + 1)) = (p : Int) ∧ IntKind.i64.wrap ((p : Int) + x) = (m : Int) ∧ (m < TX.size) ∧ (∀ wq : World, (Instr.index 9 (.string TX) (.int .i64 (m : Int))).run Try.prog wq = .ok (.int .u8 (Bd.cellOf W H E x y)) wq) ∧ IntKind.i32.wrap (Bd.cellOf W H E x y) = Bd.cellOf W H E x y := by
              rintro ⟨h1, h2, h3, h4⟩
              obtain ⟨x, rfl⟩ : ∃ n : Nat, x = n := ⟨x.toNat, by omega⟩
              obtain ⟨y, rfl⟩ : ∃ n : Nat, y = n := ⟨y.toNat, by omega⟩
              have hxy : y * W + x < W * H := by
                have h4 : (y + 1) * W ≤ H * W := Nat.mul_le_mul_right W (by omega)
                rw [Nat.succ_mul, Nat.mul_comm H W] at h4
                omega
              obtain ⟨e, he⟩ : ∃ e, E[y * W + x]? = some e := ⟨_, List.getElem?_eq_getElem (by rw [HF.out.len]; exact hxy)⟩
              have hce : Bd.cellOf W H E x y = e := by
                unfold Bd.cellOf
                rw [if_neg (by omega)]
                have : ((y : Int) * (W : Int) + (x : Int)).toNat = y * W + x := by
                  have : (y : Int) * (W : Int) = ((y * W : Nat) : Int) := by rw [Int.natCast_mul]
                  rw [this]; omega
                rw [this, he]; rfl
              obtain ⟨bt, hbt, hbe⟩ := HGET.out y x (by omega) (by omega) e he
              have hym : y * (W + 1) ≤ 64 * 65 := Nat.mul_le_mul (by omega) (by omega)
              have hyN : y * (W + 1) + (W + 1) ≤ N := by rw [← HNN.out, ← Nat.succ_mul]; exact Nat.mul_le_mul_right _ (by omega)
              have e1 : (y : Int) * ((W : Int) + 1) = ((y * (W + 1) : Nat) : Int) := by rw [Int.natCast_mul]; rfl
              refine ⟨y * (W + 1), y * (W + 1) + x, by rw [e1, IntKind.wrap_i64]; omega, by rw [IntKind.wrap_i64]; omega, by rw [HSZ.out]; omega, fun wq => ?_, ?_⟩
              · have hlt : y * (W + 1) + x < TX.size := by rw [HSZ.out]; omega
                rw [run_index_string wq 9 TX .i64 _ Try.underlying9, dif_pos ⟨by omega, by omega⟩]
                rw [hce, ← hbe]
                have hb2 := (Array.getElem?_eq_some_iff.1 hbt).2
                have hb3 : ∀ (i : Nat) (h : i < TX.size), i = y * (W + 1) + x → TX[i]'h = bt := by
                  intro i h e
                  subst e
                  exact hb2
                rw [hb3 _ _ (Int.toNat_natCast _)]
              · rw [hce]
                rcases HF.out.cell e (List.mem_of_getElem? he) with rfl | rfl | rfl | rfl | rfl <;> decide
            obtain ⟨c, hc⟩ : ∃ c, Bd.cellOf W H E x y = c := ⟨_, rfl⟩
            simp only [hc] at hcl hat hso hrim hins
            have HCL := Lib.hid hcl; have HAT := Lib.hid hat; have HSO := Lib.hid hso; have HRI := Lib.hid hrim; have HIN := Lib.hid hins
            clear hcl hat hso hrim hins hc
            go_wp2_with fail
            refine (HCL.out _ _ HTz.out.one).mono ?_
            rintro r w8 ⟨rfl, hM8⟩
            have HT8 := Lib.hid (HTz.out.then hM8)
            clear hM8
            go_upto_region 21 with fail
            go_cut [15] (fun t wx => t = .bool (decide (x ≤ 0 ∨ y ≤ 0 ∨ (W : Int) - 1 ≤ x ∨ (H : Int) - 1 ≤ y)) ∧ wx = w8)
            case first =>
              by_cases c1 : x ≤ 0
              · have hd : decide (x ≤ 0 ∨ y ≤ 0 ∨ (W : Int) - 1 ≤ x ∨ (H : Int) - 1 ≤ y) = true := by simp; omega
                have HD := Lib.hid hd; clear hd
                go_wp2; go_meet; exact ⟨by rw [HD.out], rfl⟩
              · by_cases c2 : y ≤ 0
                · have hd : decide (x ≤ 0 ∨ y ≤ 0 ∨ (W : Int) - 1 ≤ x ∨ (H : Int) - 1 ≤ y) = true := by simp; omega
                  have HD := Lib.hid hd; clear hd
                  go_wp2; go_meet; exact ⟨by rw [HD.out], rfl⟩
                · by_cases c3 : (W : Int) - 1 ≤ x
                  · have hd : decide (x ≤ 0 ∨ y ≤ 0 ∨ (W : Int) - 1 ≤ x ∨ (H : Int) - 1 ≤ y) = true := by simp; omega
                    have HD := Lib.hid hd; clear hd
                    go_wp2; go_meet; exact ⟨by rw [HD.out], rfl⟩
                  · by_cases c4 : (H : Int) - 1 ≤ y
                    · have hd : decide (x ≤ 0 ∨ y ≤ 0 ∨ (W : Int) - 1 ≤ x ∨ (H : Int) - 1 ≤ y) = true := by simp; omega
                      have HD := Lib.hid hd; clear hd
                      go_wp2; go_meet; exact ⟨by rw [HD.out], rfl⟩
                    · have hd : decide (x ≤ 0 ∨ y ≤ 0 ∨ (W : Int) - 1 ≤ x ∨ (H : Int) - 1 ≤ y) = false := by simp; omega
                      have HD := Lib.hid hd; clear hd
                      go_wp2; go_meet; exact ⟨by rw [HD.out], rfl⟩
            case rest =>
              obtain ⟨rfl, hw8⟩ := hcut
              rw [hw8]
              clear hw8
              obtain ⟨RB, hRB⟩ : ∃ RB, decide (x ≤ 0 ∨ y ≤ 0 ∨ (W : Int) - 1 ≤ x ∨ (H : Int) - 1 ≤ y) = RB := ⟨_, rfl⟩
              rw [hRB]
              have HRB := Lib.hid hRB
              clear hRB
              go_upto_region 22 with fail
              go_cut [16] (fun t wx => t = .bool (decide (0 ≤ x ∧ 0 ≤ y ∧ x < (W : Int) ∧ y < (H : Int))) ∧ wx = w8)
              case first =>
                by_cases c1 : 0 ≤ x
                · by_cases c2 : 0 ≤ y
                  · by_cases c3 : x < (W : Int)
                    · by_cases c4 : y < (H : Int)
                      · have hd : decide (0 ≤ x ∧ 0 ≤ y ∧ x < (W : Int) ∧ y < (H : Int)) = true := by simp; omega
                        have HD := Lib.hid hd; clear hd
                        go_wp2; go_meet; exact ⟨by rw [HD.out], rfl⟩
                      · have hd : decide (0 ≤ x ∧ 0 ≤ y ∧ x < (W : Int) ∧ y < (H : Int)) = false := by simp; omega
                        have HD := Lib.hid hd; clear hd
                        go_wp2; go_meet; exact ⟨by rw [HD.out], rfl⟩
                    · have hd : decide (0 ≤ x ∧ 0 ≤ y ∧ x < (W : Int) ∧ y < (H : Int)) = false := by simp; omega
                      have HD := Lib.hid hd; clear hd
                      go_wp2; go_meet; exact ⟨by rw [HD.out], rfl⟩
                  · have hd : decide (0 ≤ x ∧ 0 ≤ y ∧ x < (W : Int) ∧ y < (H : Int)) = false := by simp; omega
                    have HD := Lib.hid hd; clear hd
                    go_wp2; go_meet; exact ⟨by rw [HD.out], rfl⟩
                · have hd : decide (0 ≤ x ∧ 0 ≤ y ∧ x < (W : Int) ∧ y < (H : Int)) = false := by simp; omega
                  have HD := Lib.hid hd; clear hd
                  go_wp2; go_meet; exact ⟨by rw [HD.out], rfl⟩
              case rest =>
                obtain ⟨rfl, hw8⟩ := hcut
                rw [hw8]
                clear hw8
                by_cases hR : x ≤ 0 ∨ y ≤ 0 ∨ (W : Int) - 1 ≤ x ∨ (H : Int) - 1 ≤ y
                · have hc35 := HRI.out hR
                  subst hc35
                  have hRt : RB = true := by rw [← HRB.out]; exact decide_eq_true hR
                  subst hRt
                  by_cases hI : 0 ≤ x ∧ 0 ≤ y ∧ x < (W : Int) ∧ y < (H : Int)
                  · rw [decide_eq_true hI]
                    obtain ⟨p, m, i1, i2, i3, i4, i5⟩ := HIN.out hI
                    have l0 : (0 : Int) ≤ (m : Int) := by omega
                    have l1 : (m : Int) < (TX.size : Int) := by omega
                    clear hR hI HRI HIN HRB
                    go_wp2_with fail
                    refine (HCL.out _ _ HT8.out.two).mono ?_
                    rintro r w9 ⟨rfl, hM9⟩
                    have HT9 := Lib.hid (HT8.out.then hM9)
                    clear hM9
                    go_upto_region 26 with fail
                    obtain ⟨w10, hw10⟩ : ∃ w10, w9.alloc (.cells #[.int .i64 (x * 524288 + 5), .int .i64 (y * 524288 + 524288 - 1)] 34) = w10 := ⟨_, rfl⟩
                    have hM10 : Mod none_ w9 w10 := hw10 ▸ (Mod.refl none_ w9).alloc _
                    have hB10 : Blk w10 w9.heap.size [.int .i64 (x * 524288 + 5), .int .i64 (y * 524288 + 524288 - 1)] 34 := hw10 ▸ Blk.new w9 _ _
                    rw [hw10]
                    obtain ⟨P, hP⟩ : ∃ P, w9.heap.size = P := ⟨_, rfl⟩
                    rw [hP] at hB10 ⊢
                    have p0 := hB10.cell (j := 0) rfl
                    have p1 := hB10.cell (j := 1) rfl
                    have HT10 := Lib.hid (HT9.out.then hM10); have HB10 := Lib.hid hB10
                    clear hM10 hB10 hw10 hP
                    go_wp2_with fail
                    refine (HAT.out _ _ HT10.out.one).mono ?_
                    rintro r w11 ⟨rfl, hM11⟩
                    have HT11 := Lib.hid (HT10.out.then hM11); have hB11 := hM11.blk HB10.out (fun h => h)
                    have p2 := hB11.cell (j := 0) rfl
                    have p3 := hB11.cell (j := 1) rfl
                    have HB11 := Lib.hid hB11
                    clear hM11 hB11 p0 p1
                    go_wp2_with fail
                    refine (HAT.out _ _ HT11.out.two).mono ?_
                    rintro r w12 ⟨rfl, hM12⟩
                    have HT12 := Lib.hid (HT11.out.then hM12); have hB12 := hM12.blk HB11.out (fun h => h)
                    have p4 := hB12.cell (j := 0) rfl
                    have p5 := hB12.cell (j := 1) rfl
                    clear hM12 hB12 p2 p3
                    go_wp2_with fail
                    refine (HSO.out _ _ HT12.out.one).mono ?_
                    rintro r w13 ⟨rfl, hM13⟩
                    have HT13 := Lib.hid (HT12.out.then hM13)
                    clear hM13 p4 p5
                    go_wp2_with fail
                    go_roundw
                    case rel => exact ⟨x + 1, by go_num, by omega, by omega, HT13.out⟩
                    case measure => simp [intOf]; omega
                  · rw [decide_eq_false hI]
                    clear hR hI HRI HIN HRB
                    go_wp2_with fail
                    refine (HCL.out _ _ HT8.out.two).mono ?_
                    rintro r w9 ⟨rfl, hM9⟩
                    have HT9 := Lib.hid (HT8.out.then hM9)
                    clear hM9
                    go_upto_region 26 with fail
                    obtain ⟨w10, hw10⟩ : ∃ w10, w9.alloc (.cells #[.int .i64 (x * 524288 + 5), .int .i64 (y * 524288 + 524288 - 1)] 34) = w10 := ⟨_, rfl⟩
                    have hM10 : Mod none_ w9 w10 := hw10 ▸ (Mod.refl none_ w9).alloc _
                    have hB10 : Blk w10 w9.heap.size [.int .i64 (x * 524288 + 5), .int .i64 (y * 524288 + 524288 - 1)] 34 := hw10 ▸ Blk.new w9 _ _
                    rw [hw10]
                    obtain ⟨P, hP⟩ : ∃ P, w9.heap.size = P := ⟨_, rfl⟩
                    rw [hP] at hB10 ⊢
                    have p0 := hB10.cell (j := 0) rfl
                    have p1 := hB10.cell (j := 1) rfl
                    have HT10 := Lib.hid (HT9.out.then hM10); have HB10 := Lib.hid hB10
                    clear hM10 hB10 hw10 hP
                    go_wp2_with fail
                    refine (HAT.out _ _ HT10.out.one).mono ?_
                    rintro r w11 ⟨rfl, hM11⟩
                    have HT11 := Lib.hid (HT10.out.then hM11); have hB11 := hM11.blk HB10.out (fun h => h)
                    have p2 := hB11.cell (j := 0) rfl
                    have p3 := hB11.cell (j := 1) rfl
                    have HB11 := Lib.hid hB11
                    clear hM11 hB11 p0 p1
                    go_wp2_with fail
                    refine (HAT.out _ _ HT11.out.two).mono ?_
                    rintro r w12 ⟨rfl, hM12⟩
                    have HT12 := Lib.hid (HT11.out.then hM12); have hB12 := hM12.blk HB11.out (fun h => h)
                    have p4 := hB12.cell (j := 0) rfl
                    have p5 := hB12.cell (j := 1) rfl
                    clear hM12 hB12 p2 p3
                    go_wp2_with fail
                    refine (HSO.out _ _ HT12.out.one).mono ?_
                    rintro r w13 ⟨rfl, hM13⟩
                    have HT13 := Lib.hid (HT12.out.then hM13)
                    clear hM13 p4 p5
                    go_wp2_with fail
                    go_roundw
                    case rel => exact ⟨x + 1, by go_num, by omega, by omega, HT13.out⟩
                    case measure => simp [intOf]; omega
                · have hI : 0 ≤ x ∧ 0 ≤ y ∧ x < (W : Int) ∧ y < (H : Int) := by omega
                  have hRt : RB = false := by rw [← HRB.out]; exact decide_eq_false hR
                  subst hRt
                  rw [decide_eq_true hI]
                  obtain ⟨p, m, i1, i2, i3, i4, i5⟩ := HIN.out hI
                  have l0 : (0 : Int) ≤ (m : Int) := by omega
                  have l1 : (m : Int) < (TX.size : Int) := by omega
                  clear hR hI HRI HIN HRB
                  go_wp2_with fail
                  refine (HCL.out _ _ HT8.out.two).mono ?_
                  rintro r w9 ⟨rfl, hM9⟩
                  have HT9 := Lib.hid (HT8.out.then hM9)
                  clear hM9
                  go_upto_region 26 with fail
                  obtain ⟨w10, hw10⟩ : ∃ w10, w9.alloc (.cells #[.int .i64 (x * 524288 + 5), .int .i64 (y * 524288 + 524288 - 1)] 34) = w10 := ⟨_, rfl⟩
                  have hM10 : Mod none_ w9 w10 := hw10 ▸ (Mod.refl none_ w9).alloc _
                  have hB10 : Blk w10 w9.heap.size [.int .i64 (x * 524288 + 5), .int .i64 (y * 524288 + 524288 - 1)] 34 := hw10 ▸ Blk.new w9 _ _
                  rw [hw10]
                  obtain ⟨P, hP⟩ : ∃ P, w9.heap.size = P := ⟨_, rfl⟩
                  rw [hP] at hB10 ⊢
                  have p0 := hB10.cell (j := 0) rfl
                  have p1 := hB10.cell (j := 1) rfl
                  have HT10 := Lib.hid (HT9.out.then hM10); have HB10 := Lib.hid hB10
                  clear hM10 hB10 hw10 hP
                  go_wp2_with fail
                  refine (HAT.out _ _ HT10.out.one).mono ?_
                  rintro r w11 ⟨rfl, hM11⟩
                  have HT11 := Lib.hid (HT10.out.then hM11); have hB11 := hM11.blk HB10.out (fun h => h)
                  have p2 := hB11.cell (j := 0) rfl
                  have p3 := hB11.cell (j := 1) rfl
                  have HB11 := Lib.hid hB11
                  clear hM11 hB11 p0 p1
                  go_wp2_with fail
                  refine (HAT.out _ _ HT11.out.two).mono ?_
                  rintro r w12 ⟨rfl, hM12⟩
                  have HT12 := Lib.hid (HT11.out.then hM12); have hB12 := hM12.blk HB11.out (fun h => h)
                  have p4 := hB12.cell (j := 0) rfl
                  have p5 := hB12.cell (j := 1) rfl
                  clear hM12 hB12 p2 p3
                  go_wp2_with fail
                  refine (HSO.out _ _ HT12.out.one).mono ?_
                  rintro r w13 ⟨rfl, hM13⟩
                  have HT13 := Lib.hid (HT12.out.then hM13)
                  clear hM13 p4 p5
                  go_wp2_with fail
                  go_roundw
                  case rel => exact ⟨x + 1, by go_num, by omega, by omega, HT13.out⟩
                  case measure => simp [intOf]; omega
          · go_wp2_with fail
            go_roundw
            case rel => exact ⟨y + 1, rfl, by omega, by omega, HTz.out⟩
            case measure => simp [intOf]; omega
      · have hT9 := HT.out
        obtain ⟨g1, hbm1⟩ := hT9.one.toM
        go_wp2_with fail
        refine (spawns_any _ hbm1).mono ?_
        rintro r w9 ⟨v1, rfl, hv1, hM9⟩
        have hT10 := hT9.then hM9
        obtain ⟨g2, hbm2⟩ := hT10.two.toM
        obtain ⟨a1, c1, rfl⟩ : ∃ a c, v1 = .slice a (Bd.spawns W E).length c := by
          rcases hv1.2 with ⟨h1, h2⟩ | ⟨g', cap', cur, h1, _⟩
          · exact ⟨none, 0, by rw [h1, h2]⟩
          · exact ⟨_, _, h1⟩
        have HT10 := Lib.hid hT10
        obtain ⟨L, hL⟩ : ∃ L, (Bd.spawns W E).length = L := ⟨_, rfl⟩
        rw [hL]
        have HLL := Lib.hid hL
        clear hv1 hM9 hT9 hT10 hbm1 hL
        go_wp2_with fail
        refine (spawns_any _ hbm2).mono ?_
        rintro r wa ⟨v2, rfl, hv2, hMa⟩
        obtain ⟨a2, c2, rfl⟩ : ∃ a c, v2 = .slice a (Bd.spawns W E).length c := by
          rcases hv2.2 with ⟨h1, h2⟩ | ⟨g', cap', cur, h1, _⟩
          · exact ⟨none, 0, by rw [h1, h2]⟩
          · exact ⟨_, _, h1⟩
        rw [HLL.out]
        have HTa := Lib.hid (HT10.out.then hMa)
        clear hv2 hMa hbm2
        go_wp2_with fail
        go_ret
        exact ⟨rfl, HTa.out.m⟩
end Go.Proofs.Ytlndgnlkfhlekaa
