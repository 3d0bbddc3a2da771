/- Boards: the document's Parse: the walk. -/
import Derived.Test.YtinjlkceplhibaaDoorBdRc
namespace Go.Proofs.YtinjlkceplhibaaDoor
open Go.RowKit

theorem rcellf_any (w : World) (c : Int) : Calls Tryd.prog 54 #[.int .i32 c] w fun e w' => e = .returned (.tuple #[.int .i32 (Bd.kind c), .bool (!(Bd.kind c == 0))]) ∧ w' = w := by
  obtain ⟨k, hk⟩ : ∃ k, Bd.kind c = k := ⟨_, rfl⟩
  rw [hk]
  unfold Bd.kind at hk
  go_enter Tryd.func54, Tryd.ntmps54
  by_cases h1 : c = 35
  · subst h1; go_wp2; go_ret2; obtain rfl : k = 35 := by simpa using hk.symm
    exact ⟨rfl, rfl⟩
  by_cases h2 : c = 9608
  · subst h2; go_wp2; go_ret2; obtain rfl : k = 35 := by simpa using hk.symm
    exact ⟨rfl, rfl⟩
  by_cases h3 : c = 46
  · subst h3; go_wp2; go_ret2; obtain rfl : k = 46 := by simpa using hk.symm
    exact ⟨rfl, rfl⟩
  by_cases h4 : c = 32
  · subst h4; go_wp2; go_ret2; obtain rfl : k = 46 := by simpa using hk.symm
    exact ⟨rfl, rfl⟩
  by_cases h5 : c = 83
  · subst h5; go_wp2; go_ret2; obtain rfl : k = 83 := by simpa using hk.symm
    exact ⟨rfl, rfl⟩
  by_cases h6 : c = 69
  · subst h6; go_wp2; go_ret2; obtain rfl : k = 69 := by simpa using hk.symm
    exact ⟨rfl, rfl⟩
  by_cases h7 : c = 65
  · subst h7; go_wp2; go_ret2; obtain rfl : k = 65 := by simpa using hk.symm
    exact ⟨rfl, rfl⟩
  have e1 : (c == 35) = false := by simpa using h1
  have e2 : (c == 9608) = false := by simpa using h2
  have e3 : (c == 46) = false := by simpa using h3
  have e4 : (c == 32) = false := by simpa using h4
  have e5 : (c == 83) = false := by simpa using h5
  have e6 : (c == 69) = false := by simpa using h6
  have e7 : (c == 65) = false := by simpa using h7
  simp only [h1, h2, h3, h4, h5, h6, h7, or_self, if_false] at hk
  clear h1 h2 h3 h4 h5 h6 h7
  go_wp2
  go_ret2
  obtain rfl : k = 0 := hk.symm
  exact ⟨rfl, rfl⟩
/-- how the reading stands -/
structure RSt (cs : List Int) (n pos : Nat) (L : List (List Int)) (l r : List Int) (last : Int) : Prop where
  spl : Bd.spl [] cs = L ++ Bd.spl l r
  ok : Bd.ok cs ↔ Bd.ok r
  last : last = 10 ↔ l = []
  len : L.length ≤ pos ∧ l.length ≤ pos
  lim : L.length ≤ n ∧ l.length ≤ n
/-- behind the reading -/
structure RQ (w wr : World) (Z : Nat) (v : Value) (vs : List Value) (K : List (List Int)) : Prop where
  blk : Blk wr Z [v] 94
  own : wr.ownsRow w.heap.size 88 1 v vs.length vs
  rows : ∃ B, Rows_ wr w.heap.size B vs K
  mod : Mod none_ w wr
set_option maxHeartbeats 8000000 in
set_option maxRecDepth 100000 in
theorem rparse_any (w : World) (s : ByteArray) (hs : s.size ≤ 1048576) :
    Calls Tryd.prog 19 #[.string s] w fun e w' => RParseP w w' e (Bd.read (Bd.runes s)) ∧ Mod none_ w w' := by
  obtain ⟨RR, hRR⟩ : ∃ RR, Bd.read (Bd.runes s) = RR := ⟨_, rfl⟩
  have HRR := Lib.hid hRR
  rw [hRR]
  clear hRR
  go_enter Tryd.func19, Tryd.ntmps19
  go_upto_block 0 with fail
  obtain ⟨w1, hw1⟩ : ∃ w1, (w.alloc (.cells #[.slice none 0 0] 94)).iter s 0 = w1 := ⟨_, rfl⟩
  have hM1 : Mod none_ w w1 := hw1 ▸ ((Mod.refl none_ w).alloc _).alloc _
  have hB1 : Blk w1 w.heap.size [.slice none 0 0] 94 := hw1 ▸ (Blk.new w _ _).alloc _
  have hI1 : w1.heap[w.heap.size + 1]? = some (.stringIter s 0) := by
    rw [← hw1]
    have := World.iter_heap (w.alloc (.cells #[.slice none 0 0] 94)) s 0
    simpa using this
  try rw [hw1]
  obtain ⟨Z, hZ⟩ : ∃ Z, w.heap.size = Z := ⟨_, rfl⟩
  have hP1 : RP w w1 w.heap.size w1.heap.size (.slice none 0 0) [] [] (.slice none 0 0) [] := ⟨hB1, Row.nil _ _ _ _, ⟨rfl, (fun i v l h => by simp at h), (fun i j v v' _ h => by simp at h)⟩, Row.nil _ _ _ _, ⟨hM1.size, Nat.le_refl _⟩, hM1⟩
  rw [hZ] at hP1 hI1 hB1
  simp only [hZ]
  have HZ := Lib.hid hZ; have HP1 := Lib.hid hP1; have HI1 := Lib.hid hI1
  clear hP1 hI1 hB1 hM1 hw1 hZ
  go_cut [5, 6] (fun u la wx => ∃ B L l v vs last, RP w wx Z B v vs L u l ∧ la = .int .i32 last ∧ Bd.spl [] (Bd.runes s) = L ++ Bd.spl l [] ∧ Bd.ok (Bd.runes s) ∧ (last = 10 ↔ l = []) ∧ L.length ≤ s.size)
  case first =>
    go_wp2
    go_loopw [5, 6] (fun u la wr => ∃ (pos B : Nat) (L : List (List Int)) (l : List Int) (v : Value) (vs : List Value) (last : Int), la = .int .i32 last ∧ wr.heap[Z + 1]? = some (.stringIter s pos) ∧ RP w wr Z B v vs L u l ∧ RSt (Bd.runes s) s.size pos L l (Bd.runesAt s s.size pos) last) (fun _ _ wr => s.size - wr.iterPos (Z + 1))
    case atStart => exact ⟨0, _, [], [], .slice none 0 0, [], 10, rfl, HI1.out, HP1.out, ⟨rfl, Iff.rfl, by simp, ⟨Nat.le_refl _, Nat.le_refl _⟩, ⟨Nat.zero_le _, Nat.zero_le _⟩⟩⟩
    case round =>
      obtain ⟨u, rfl⟩ : ∃ u, u = u5 := ⟨_, rfl⟩
      obtain ⟨pos, B, L, l, v, vs, last, rfl, hI, hP, hst⟩ := hrel
      clear HP1 HI1
      have hposm : wr.iterPos (Z + 1) = pos := by unfold World.iterPos; rw [hI]
      by_cases hp : pos < s.size
      · have hnx := fun ty => Lib.run_next_any_at (P := Tryd.prog) wr (Z + 1) s pos ty hI hp
        have hrn := Bd.runesAt_next s s.size pos hp (by omega)
        have hwd := Bd.width_pos s pos hp
        have hI2 := Lib.iterAt_heap wr (Z + 1) s pos (pos + (Utf8.decode s pos).2) hI
        have hMi := iterAt_mod wr (Z + 1) s (pos + (Utf8.decode s pos).2)
        obtain ⟨c, hc⟩ : ∃ c, ((Utf8.decode s pos).1 : Int) = c := ⟨_, rfl⟩
        obtain ⟨n, hn⟩ : ∃ n, (Utf8.decode s pos).2 = n := ⟨_, rfl⟩
        rw [hc, hn] at hrn
        simp only [hc, hn] at hnx
        rw [hn] at hwd hI2 hMi
        rw [hrn] at hst
        have hZs : Z + 1 < wr.heap.size := (Array.getElem?_eq_some_iff.1 hI).1
        obtain ⟨wi, hwi⟩ : ∃ wi, wr.iterAt (Z + 1) s (pos + n) = wi := ⟨_, rfl⟩
        rw [hwi] at hI2 hMi
        simp only [hwi] at hnx
        have hPi : RP w wi Z B v vs L u l := ⟨hMi.blk hP.blk (not_only (by omega)), Row.modO hP.own hMi (fun g hg => not_only (own_ne_iter hP.own hI g hg)), hP.rows.mod hMi (fun i v l hv ho g hg _ => not_only (own_ne_iter ho hI g hg)), Row.modO hP.line hMi (fun g hg => not_only (own_ne_iter hP.line hI g hg)), ⟨hP.base.1, Nat.le_trans hP.base.2 hMi.size⟩, hP.mod.trans hMi (fun j hj e => by have : j = Z + 1 := e; have := HZ.out; omega)⟩
        obtain ⟨r, hr⟩ : ∃ r, Bd.runesAt s s.size (pos + n) = r := ⟨_, rfl⟩
        rw [hr] at hst
        have q0 := hPi.blk.cell (j := 0) rfl
        have f0 := hPi.blk.frozen 0
        have hms : s.size - (pos + n) < s.size - pos := by omega
        have hll := hst.len; have hlm := hst.lim
        have HPI := Lib.hid hPi; have HI2 := Lib.hid hI2; have HST := Lib.hid hst; have HR := Lib.hid hr; have HMS := Lib.hid hms; have HPM := Lib.hid hposm; have HMI := Lib.hid hPi.mod; have HZS := Lib.hid hZs
        clear hPi hI2 hst hr hwi hc hn hrn hMi hI hP hms hposm
        by_cases c10 : c = 10
        · subst c10
          have hsp := HST.out.spl
          rw [Bd.spl_line] at hsp
          have hok := HST.out.ok
          rw [Bd.ok_cons] at hok
          have HSP := Lib.hid hsp; have HOK := Lib.hid hok
          clear hsp hok
          have hown1 := fun (o : Obj) => Row.none HPI.out.own ((Mod.refl none_ wi).alloc o)
          have HOWN := Lib.hid hown1
          have hvl := HPI.out.rows.len
          have hbs := HPI.out.mod.size
          obtain ⟨ua, un, uc, rfl⟩ : ∃ a n c, u = .slice a n c := by
            rcases HPI.out.line.2 with ⟨h1, _⟩ | ⟨g', cap', cur, h1, _⟩
            · exact ⟨_, _, _, h1⟩
            · exact ⟨_, _, _, h1⟩
          have hmall : ∀ w3, (wi.alloc (.cells #[Value.slice ua un uc] 88)).grownBy w3 v.ownBlock → Mod (fun b => v.ownBlock = some b) wi w3 ∧ Blk w3 Z [v] 94 := fun w3 h2 => by
            have hM : Mod (fun b => v.ownBlock = some b) wi w3 := ((Mod.refl (fun b => v.ownBlock = some b) wi).alloc (.cells #[Value.slice ua un uc] 88)).trans (Mod.grownBy (S := fun b => v.ownBlock = some b) h2 (fun j _ e => e)) (fun _ _ e => e)
            exact ⟨hM, hM.blk HPI.out.blk (fun e => own_ne HPI.out.own HPI.out.blk (by decide) Z e rfl)⟩
          have HALL := Lib.hid hmall
          clear hown1 hmall
          go_upto_region 10 with (at_builtin; refine wpList_append_l rfl (.tmp 30) (.tmp 32) rfl w.heap.size v vs rfl (HOWN.out _) (.slice ua un uc) rfl wi.heap.size rfl (by rw [World.cell?_alloc_new]; rfl) (by omega) (by simp; omega) ?_; intro g2 cap2 m2 w3 hv2 hm2 hg2; have HM2 := Lib.hid hm2; clear hm2; obtain ⟨hM3, hB3⟩ := HALL.out w3 hg2; have r2 := hB3.cell (j := 0) rfl; have r2f := hB3.frozen 0)
          obtain ⟨v2, hv2e⟩ : ∃ v2, Value.slice (some ⟨g2, 0, none⟩) m2 cap2 = v2 := ⟨_, rfl⟩
          have hv2' : w3.ownsRow w.heap.size 88 1 v2 (vs ++ [Value.slice ua un uc]).length (vs ++ [Value.slice ua un uc]) := by rw [← HM2.out, ← hv2e]; exact hv2
          rw [hv2e]
          have hB4 : Blk (w3.setCell ⟨Z, 0, none⟩ v2) Z [v2] 94 := (hB3.set 0 _).cs rfl
          have hM4 : Mod (only Z) w3 (w3.setCell ⟨Z, 0, none⟩ v2) := (Mod.refl _ _).setCell (fun _ => only_self Z) _
          have hl3 := Row.modO HPI.out.line hM3 (fun g hg e => own_apart HPI.out.own HPI.out.line (by decide) g e hg)
          have hr3 := HPI.out.rows.mod hM3 (fun i v' l' hv ho g hg _ e => own_apart HPI.out.own ho (by decide) g e hg)
          have hl4 := Row.modO hl3 hM4 (fun g hg => not_only (own_ne hl3 hB3 (by decide) g hg))
          have hr4 := hr3.mod hM4 (fun i v' l' hv ho g hg _ => not_only (own_ne ho hB3 (by decide) g hg))
          have hMw : Mod none_ w w3 := HPI.out.mod.trans hM3 (fun b hb e => by have := Row.own_ge HPI.out.own e; omega)
          have hM4w : Mod none_ w (w3.setCell ⟨Z, 0, none⟩ v2) := hMw.trans hM4 (fun j hj e => by have : j = Z := e; have := HZ.out; omega)
          have hP4 : RP w (w3.setCell ⟨Z, 0, none⟩ v2) Z (w3.setCell ⟨Z, 0, none⟩ v2).heap.size v2 (vs ++ [Value.slice ua un uc]) (L ++ [l]) (.slice none 0 0) [] := ⟨hB4, Row.modO hv2' hM4 (fun g hg => not_only (own_ne hv2' hB3 (by decide) g hg)), hr4.snoc hl4 HPI.out.base.1 (Nat.le_trans HPI.out.base.2 (Nat.le_trans hM3.size hM4.size)) (fun g hg => Row.own_lt hl4 hg), Row.nil _ _ _ _, ⟨hM4w.size, Nat.le_refl _⟩, hM4w⟩
          have hI4 : (w3.setCell ⟨Z, 0, none⟩ v2).heap[Z + 1]? = some (.stringIter s (pos + n)) := (hM4.block (Z + 1) (Nat.lt_of_lt_of_le (Array.getElem?_eq_some_iff.1 HI2.out).1 hM3.size) (not_only (by omega))).trans ((hM3.block (Z + 1) (Array.getElem?_eq_some_iff.1 HI2.out).1 (fun e => own_ne_iter HPI.out.own HI2.out (Z + 1) e rfl)).trans HI2.out)
          generalize w3.setCell ⟨Z, 0, none⟩ v2 = w4 at *
          have HP4 := Lib.hid hP4; have HI4 := Lib.hid hI4
          clear hB4 hM4 hP4 hI4 hM3 hB3 r2 r2f hv2 hv2' hv2e HM2 hg2 HALL HOWN q0 f0 hl3 hr3 hl4 hr4 hMw hM4w
          go_wp2
          go_roundw
          case rel =>
            refine ⟨pos + n, w4.heap.size, L ++ [l], [], v2, vs ++ [Value.slice ua un uc], 10, rfl, HI4.out, HP4.out, ?_⟩
            rw [HR.out]
            exact ⟨by rw [HSP.out, List.append_assoc]; rfl, HOK.out.trans ⟨fun h => h.2, fun h => ⟨Or.inl rfl, h⟩⟩, by simp, ⟨by simp; omega, Nat.zero_le _⟩, ⟨by simp; omega, Nat.zero_le _⟩⟩
          case measure =>
            have h1 := HI4.out
            unfold World.iterPos at HPM ⊢
            rw [h1]
            have h2 := HPM.out
            rw [h2]
            exact HMS.out
        · have e10 : (c == 10) = false := by simp [c10]
          obtain ⟨k, hk⟩ : ∃ k, Bd.kind c = k := ⟨_, rfl⟩
          have hcell : ∀ wq : World, Calls Tryd.prog 54 #[.int .i32 c] wq fun e w' => e = .returned (.tuple #[.int .i32 k, .bool (!(k == 0))]) ∧ wq = w' := fun wq => (rcellf_any wq c).mono (fun _ _ h => ⟨by rw [← hk]; exact h.1, h.2.symm⟩)
          have hsp := HST.out.spl
          rw [Bd.spl_cell c10, hk] at hsp
          have hok := HST.out.ok
          rw [Bd.ok_cons, hk] at hok
          have HSP := Lib.hid hsp; have HOK := Lib.hid hok; have HCELL := Lib.hid hcell; have HC10 := Lib.hid c10
          clear hsp hok hcell hk c10
          by_cases g1 : k = 0
          · have hrd : RR = .bad := HRR.out.symm.trans (Bd.doc_bad (fun h => by have := (HOK.out.1 h.1).1; rcases this with h | h; exact HC10.out h; exact h g1))
            have HRD := Lib.hid hrd
            have e2 : (k == 0) = true := by simp [g1]
            have e3 : (!(k == 0)) = false := by simp [g1]
            rw [e3] at HCELL
            clear g1 hrd
            go_wp2_with (go_at_call 54; refine (HCELL.out _).mono ?_; rintro r wz ⟨rfl, rfl⟩)
            go_ret2
            rw [HRD.out]
            exact ⟨rfl, HMI.out⟩
          · have e3 : (!(k == 0)) = true := by simp [g1]
            rw [e3] at HCELL
            have HK := Lib.hid g1
            have hown1 := fun (o : Obj) => Row.none HPI.out.line ((Mod.refl none_ wi).alloc o)
            have HOWN := Lib.hid hown1
            have hbs := HPI.out.base.2
            have hmall : ∀ w3, (wi.alloc (.cells #[.int .i32 k] 21)).grownBy w3 u.ownBlock → Mod (fun b => u.ownBlock = some b) wi w3 := fun w3 h2 => 
              ((Mod.refl (fun b => u.ownBlock = some b) wi).alloc (.cells #[.int .i32 k] 21)).trans (Mod.grownBy (S := fun b => u.ownBlock = some b) h2 (fun j _ e => e)) (fun _ _ e => e)
            have HALL := Lib.hid hmall
            clear g1 hown1 hmall
            go_upto_region 14 with (go_at_call 54; refine (HCELL.out _).mono ?_; rintro r wz ⟨rfl, rfl⟩)
            go_wp2_with (at_builtin; refine wpList_append_r rfl (.tmp 43) (.tmp 45) rfl B u l rfl (HOWN.out _) k wi.heap.size rfl (by rw [World.cell?_alloc_new]; rfl) (by omega) (by simp; omega) ?_; intro v2 w3 hv2 hg2; have HV2 := Lib.hid hv2; have HM3 := Lib.hid (HALL.out w3 hg2); clear hv2 hg2)
            have hM3 := HM3.out
            have hP4 : RP w w3 Z B v vs L v2 (l ++ [k]) := ⟨hM3.blk HPI.out.blk (fun e => own_ne HPI.out.line HPI.out.blk (by decide) Z e rfl), Row.modO HPI.out.own hM3 (fun g hg e => own_apart HPI.out.own HPI.out.line (by decide) g hg e), HPI.out.rows.mod hM3 (fun i v' l' hv ho g hg hgB e => by have := Row.own_ge HPI.out.line e; omega), HV2.out, ⟨HPI.out.base.1, Nat.le_trans HPI.out.base.2 hM3.size⟩, HPI.out.mod.trans hM3 (fun b hb e => by have := Row.own_ge HPI.out.line e; have := HPI.out.base.1; omega)⟩
            have hI4 : w3.heap[Z + 1]? = some (.stringIter s (pos + n)) := (hM3.block (Z + 1) (Array.getElem?_eq_some_iff.1 HI2.out).1 (fun e => own_ne_iter HPI.out.line HI2.out (Z + 1) e rfl)).trans HI2.out
            have HP4 := Lib.hid hP4; have HI4 := Lib.hid hI4
            clear hM3 hP4 hI4
            go_roundw
            case rel =>
              refine ⟨pos + n, B, L, l ++ [k], v, vs, c, rfl, HI4.out, HP4.out, ?_⟩
              rw [HR.out]
              exact ⟨HSP.out, HOK.out.trans ⟨fun h => h.2, fun h => ⟨Or.inr HK.out, h⟩⟩, by have := HC10.out; simp [this], ⟨by omega, by simp; omega⟩, ⟨by omega, by simp; omega⟩⟩
            case measure =>
              have h1 := HI4.out
              unfold World.iterPos at HPM ⊢
              rw [h1]
              have h2 := HPM.out
              rw [h2]
              exact HMS.out
      · have hnx := fun ty => Lib.run_next_end_at (P := Tryd.prog) wr (Z + 1) s pos ty hI hp
        rw [Bd.runesAt_end s _ _ hp] at hst
        have HP := Lib.hid hP; have HST := Lib.hid hst
        clear hP hst hposm
        go_wp2
        go_meet
        exact ⟨_, _, _, _, _, _, HP.out, rfl, HST.out.spl, HST.out.ok.2 (fun c hc => by simp at hc), HST.out.last, HST.out.lim.1⟩
  case rest =>
    obtain ⟨B, L, l, v, vs, last, hP, rfl, hsp, hok, hla, hLn⟩ := hcut
    obtain ⟨K, hK⟩ : ∃ K, Bd.spl [] (Bd.runes s) = K := ⟨_, rfl⟩
    have HDB : ¬ Bd.good K → RR = .bad := fun h => HRR.out.symm.trans (Bd.doc_bad (fun hh => h (hK ▸ hh.2)))
    have HDG : Bd.good K → RR = Bd.shut (K.headD []).length K.length K.flatten := fun h => HRR.out.symm.trans ((Bd.doc_good hok (hK ▸ h)).trans (by rw [hK]))
    rw [hK, Bd.spl_nil] at hsp
    have hKn : K.length ≤ 1048577 := by
      rw [hsp, List.length_append]
      split <;> simp <;> omega
    have HP := Lib.hid hP; have HSP := Lib.hid hsp; have HLA := Lib.hid hla; have HDB' := Lib.hid HDB; have HDG' := Lib.hid HDG
    clear HDB HDG hP hsp hok hla hK HP1 HI1
    go_upto_if 48 with fail
    go_cut [] (fun wx => ∃ v vs, RQ w wx Z v vs K)
    case first =>
      by_cases h0 : l = []
      · have e1 : (last != 10) = false := by rw [HLA.out.2 h0]; rfl
        have hsp := HSP.out
        rw [if_pos h0, List.append_nil] at hsp
        have hQ : RQ w wc Z v vs K := ⟨HP.out.blk, HP.out.own, ⟨B, by rw [hsp]; exact HP.out.rows⟩, HP.out.mod⟩
        have HQ := Lib.hid hQ
        clear h0 hsp hQ HSP
        go_wp2
        go_meet
        exact ⟨v, vs, HQ.out⟩
      · have e1 : (last != 10) = true := by
          have : last ≠ 10 := fun e => h0 (HLA.out.1 e)
          simp [this]
        have hsp := HSP.out
        rw [if_neg h0] at hsp
        have HSP2 := Lib.hid hsp
        obtain ⟨u, rfl⟩ : ∃ u, u = u5 := ⟨_, rfl⟩
        have q0 := HP.out.blk.cell (j := 0) rfl
        have f0 := HP.out.blk.frozen 0
        have hown1 := fun (o : Obj) => Row.none HP.out.own ((Mod.refl none_ wc).alloc o)
        have HOWN := Lib.hid hown1
        have hvl := HP.out.rows.len
        have hbs := HP.out.mod.size
        obtain ⟨ua, un, uc, rfl⟩ : ∃ a n c, u = .slice a n c := by
          rcases HP.out.line.2 with ⟨h1, _⟩ | ⟨g', cap', cur, h1, _⟩
          · exact ⟨_, _, _, h1⟩
          · exact ⟨_, _, _, h1⟩
        have hmall : ∀ w3, (wc.alloc (.cells #[.slice ua un uc] 88)).grownBy w3 v.ownBlock → Mod (fun b => v.ownBlock = some b) wc w3 ∧ Blk w3 Z [v] 94 := fun w3 h2 => by
          have hM : Mod (fun b => v.ownBlock = some b) wc w3 := ((Mod.refl (fun b => v.ownBlock = some b) wc).alloc (.cells #[.slice ua un uc] 88)).trans (Mod.grownBy (S := fun b => v.ownBlock = some b) h2 (fun j _ e => e)) (fun _ _ e => e)
          exact ⟨hM, hM.blk HP.out.blk (fun e => own_ne HP.out.own HP.out.blk (by decide) Z e rfl)⟩
        have HALL := Lib.hid hmall
        clear hown1 hmall h0 hsp HSP
        go_wp2_with (at_builtin; refine wpList_append_l rfl (.tmp 53) (.tmp 55) rfl w.heap.size v vs rfl (HOWN.out _) (.slice ua un uc) rfl wc.heap.size rfl (by rw [World.cell?_alloc_new]; rfl) (by omega) (by simp; omega) ?_; intro g2 cap2 m2 w3 hv2 hm2 hg2; have HM2 := Lib.hid hm2; clear hm2; obtain ⟨hM3, hB3⟩ := HALL.out w3 hg2; have r2 := hB3.cell (j := 0) rfl; have r2f := hB3.frozen 0)
        have hv2' : w3.ownsRow w.heap.size 88 1 (.slice (some ⟨g2, 0, none⟩) m2 cap2) (vs ++ [Value.slice ua un uc]).length (vs ++ [Value.slice ua un uc]) := by rw [← HM2.out]; exact hv2
        have hB4 : Blk (w3.setCell ⟨Z, 0, none⟩ (.slice (some ⟨g2, 0, none⟩) m2 cap2)) Z [.slice (some ⟨g2, 0, none⟩) m2 cap2] 94 := (hB3.set 0 _).cs rfl
        have hM4 : Mod (only Z) w3 (w3.setCell ⟨Z, 0, none⟩ (.slice (some ⟨g2, 0, none⟩) m2 cap2)) := (Mod.refl _ _).setCell (fun _ => only_self Z) _
        have hl3 := Row.modO HP.out.line hM3 (fun g hg e => own_apart HP.out.own HP.out.line (by decide) g e hg)
        have hr3 := HP.out.rows.mod hM3 (fun i v' l' hv ho g hg _ e => own_apart HP.out.own ho (by decide) g e hg)
        have hl4 := Row.modO hl3 hM4 (fun g hg => not_only (own_ne hl3 hB3 (by decide) g hg))
        have hr4 := hr3.mod hM4 (fun i v' l' hv ho g hg _ => not_only (own_ne ho hB3 (by decide) g hg))
        have hMw : Mod none_ w w3 := HP.out.mod.trans hM3 (fun b hb e => by have := Row.own_ge HP.out.own e; omega)
        have hM4w : Mod none_ w (w3.setCell ⟨Z, 0, none⟩ (.slice (some ⟨g2, 0, none⟩) m2 cap2)) := hMw.trans hM4 (fun j hj e => by have : j = Z := e; have := HZ.out; omega)
        have hQ : RQ w (w3.setCell ⟨Z, 0, none⟩ (.slice (some ⟨g2, 0, none⟩) m2 cap2)) Z (.slice (some ⟨g2, 0, none⟩) m2 cap2) (vs ++ [Value.slice ua un uc]) K := ⟨hB4, Row.modO hv2' hM4 (fun g hg => not_only (own_ne hv2' hB3 (by decide) g hg)), ⟨_, by rw [HSP2.out]; exact hr4.snoc hl4 HP.out.base.1 (Nat.le_trans HP.out.base.2 (Nat.le_trans hM3.size hM4.size)) (fun g hg => Row.own_lt hl4 hg)⟩, hM4w⟩
        have HQ := Lib.hid hQ
        clear hv2' hB4 hM4 hl3 hr3 hl4 hr4 hMw hM4w hQ hM3 hB3 HALL HOWN q0 f0 hv2 hg2
        go_meet
        exact ⟨_, _, HQ.out⟩
    case rest =>
      obtain ⟨v, vs, hQ⟩ := hcut
      obtain ⟨N, hN⟩ : ∃ N, K.length = N := ⟨_, rfl⟩
      have hvN : vs.length = N := by obtain ⟨B', hR⟩ := hQ.rows; rw [hR.len, hN]
      have q0 := hQ.blk.cell (j := 0) rfl
      rw [hN] at hKn
      have HN := Lib.hid hN; have HVN := Lib.hid hvN
      have HQ := Lib.hid hQ
      clear hN hvN hQ
      by_cases hb : N < 3 ∨ 64 < N
      · have HRD := Lib.hid (HDB'.out (fun h => by have h1 := h.1; have h2 := h.2.1; rw [HN.out] at h1 h2; omega))
        have HMI := Lib.hid HQ.out.mod
        obtain ⟨va, vc, rfl⟩ : ∃ a c, v = .slice a N c := by
          have := HVN.out
          rcases HQ.out.own.2 with ⟨h1, h2⟩ | ⟨g', cap', cur, h1, _⟩
          · exact ⟨none, 0, by rw [h1, ← this, h2]⟩
          · exact ⟨_, _, by rw [h1, this]⟩
        by_cases t1 : N < 3
        · have t1' : (N : Int) < 3 := by omega
          clear hb
          go_wp2
          go_ret2
          rw [HRD.out]
          exact ⟨rfl, HMI.out⟩
        · have t1' : ¬ (N : Int) < 3 := by omega
          have t2' : (64 : Int) < (N : Int) := by omega
          clear hb
          go_wp2
          go_ret2
          rw [HRD.out]
          exact ⟨rfl, HMI.out⟩
      · have t1' : ¬ (N : Int) < 3 := by omega
        have t2' : ¬ (64 : Int) < (N : Int) := by omega
        have hN0 : 0 < N := by omega
        obtain ⟨m, cap, rest, hv, hm, hBm, hcap⟩ := Row.blk HQ.out.own (by rw [HVN.out]; omega)
        rw [HVN.out] at hv hcap
        subst hv
        have hrow : ∀ (i : Nat) l, K[i]? = some l → ∃ a c, wc.cell? ⟨m, i, none⟩ = some (.slice a l.length c) := by
          intro i l hl
          obtain ⟨B', hR⟩ := HQ.out.rows
          have hi := (List.getElem?_eq_some_iff.1 hl).1
          obtain ⟨u, hu⟩ : ∃ u, vs[i]? = some u := ⟨_, List.getElem?_eq_getElem (by rw [hR.len]; exact hi)⟩
          have ho := (hR.row i u l hu hl).1
          have hc : wc.cell? ⟨m, i, none⟩ = some u := hBm.cell (by rw [List.getElem?_append_left (by rw [hR.len]; exact hi)]; exact hu)
          rcases ho.2 with ⟨h1, h2⟩ | ⟨g', cap', cur, h1, _⟩
          · exact ⟨none, 0, by rw [hc, h1, h2]⟩
          · exact ⟨_, _, by rw [hc, h1]⟩
        obtain ⟨k0, hk0⟩ : ∃ l, K[0]? = some l := ⟨_, List.getElem?_eq_getElem (by rw [HN.out]; omega)⟩
        obtain ⟨W, hW⟩ : ∃ W, k0.length = W := ⟨_, rfl⟩
        obtain ⟨a0, c0, q1⟩ := hrow 0 k0 hk0
        rw [hW] at q1
        have hbadw : ∀ w', (∀ l ∈ K, l.length = w') → w' = W := fun w' h => by rw [← hW]; exact (h k0 (List.mem_of_getElem? hk0)).symm
        have HROW := Lib.hid hrow; have HBW := Lib.hid hbadw; have HBM := Lib.hid hBm; have HMI := Lib.hid HQ.out.mod
        have HK0 := Lib.hid (And.intro hk0 hW)
        have hN0' : (0 : Int) < (N : Int) := by omega
        clear hrow hbadw hBm hk0 hW hb hm
        go_upto_block 2 with fail
        go_cut [] (fun wx => wx = wc ∧ (∀ l ∈ K, l.length = W) ∧ 3 ≤ W ∧ W ≤ 64)
        case first =>
          go_wp2
          go_loop [13] (fun t => ∃ i : Nat, t = .int .i64 i ∧ i ≤ N ∧ (∀ j l, j < i → K[j]? = some l → l.length = W) ∧ (0 < i → 3 ≤ W ∧ W ≤ 64)) (fun t => N - (intOf t).toNat)
          case atStart => exact ⟨0, rfl, by omega, (fun j l h => by omega), (fun h => by omega)⟩
          case round =>
            obtain ⟨i, rfl, hi, hall, hw⟩ := hrel
            have HALL := Lib.hid hall; have HWB := Lib.hid hw
            clear hall hw
            by_cases hiN : i < N
            · have hiN' : (i : Int) < (N : Int) := by omega
              obtain ⟨l, hl⟩ : ∃ l, K[i]? = some l := ⟨_, List.getElem?_eq_getElem (by rw [HN.out]; exact hiN)⟩
              obtain ⟨ai, ci, q2⟩ := HROW.out i l hl
              obtain ⟨n, hn⟩ : ∃ n, l.length = n := ⟨_, rfl⟩
              rw [hn] at q2
              have HL := Lib.hid (And.intro hl hn)
              clear hl hn
              by_cases hnW : n = W
              · subst hnW
                by_cases w3 : n < 3
                · have w3' : (n : Int) < 3 := by omega
                  have HRD := Lib.hid (HDB'.out (fun h => by obtain ⟨h1, h2, w', h3, h4, h5⟩ := h; have := HBW.out w' h5; omega))
                  go_wp2
                  go_ret2
                  rw [HRD.out]
                  exact ⟨rfl, HMI.out⟩
                · have w3' : ¬ (n : Int) < 3 := by omega
                  by_cases w4 : 64 < n
                  · have w4' : 64 < (n : Int) := by omega
                    have HRD := Lib.hid (HDB'.out (fun h => by obtain ⟨h1, h2, w', h3, h4, h5⟩ := h; have := HBW.out w' h5; omega))
                    go_wp2
                    go_ret2
                    rw [HRD.out]
                    exact ⟨rfl, HMI.out⟩
                  · have w4' : ¬ 64 < (n : Int) := by omega
                    go_wp2
                    go_round
                    case rel =>
                      refine ⟨i + 1, by go_num, by omega, fun j l' hj hl' => ?_, fun _ => ⟨by omega, by omega⟩⟩
                      by_cases hji : j < i
                      · exact HALL.out j l' hji hl'
                      · obtain rfl : j = i := by omega
                        have := HL.out.1.symm.trans hl'
                        obtain rfl := Option.some.inj this
                        exact HL.out.2
                    case measure => simp [intOf]; omega
              · have e1 : ((n : Int) != (W : Int)) = true := by simp; omega
                have e2 : (n != W) = true := by simp; omega
                have HRD := Lib.hid (HDB'.out (fun h => by obtain ⟨h1, h2, w', h3, h4, h5⟩ := h; have := HBW.out w' h5; have := h5 l (List.mem_of_getElem? HL.out.1); have := HL.out.2; omega))
                clear hnW
                go_wp2
                go_ret2
                rw [HRD.out]
                exact ⟨rfl, HMI.out⟩
            · have hiN' : ¬ (i : Int) < (N : Int) := by omega
              have hW3 := HWB.out (by omega)
              have HW3 := Lib.hid hW3
              have hall : ∀ l ∈ K, l.length = W := by
                intro l hl
                obtain ⟨j, hj⟩ := List.getElem?_of_mem hl
                have := (List.getElem?_eq_some_iff.1 hj).1
                exact HALL.out j l (by have := HN.out; omega) hj
              have HA := Lib.hid hall
              clear hW3 hall
              go_wp2
              go_meet
              exact ⟨rfl, HA.out, HW3.out.1, HW3.out.2⟩
        case rest =>
          obtain ⟨hwc, hall, hw3, hw64⟩ := hcut
          obtain ⟨w2, rfl⟩ : ∃ w2, w2 = wc := ⟨_, rfl⟩
          subst hwc
          obtain ⟨B', hR⟩ := HQ.out.rows
          obtain ⟨gs, hC⟩ := RC.of HQ.out.blk HBM.out hcap hR HN.out hall (by omega) HQ.out.mod
          have hD : K.flatten.length = W * N := by rw [Bd.flatten_length hall, HN.out]
          have hgood : Bd.good K := ⟨by rw [HN.out]; omega, by rw [HN.out]; omega, W, hw3, hw64, hall⟩
          have hrd := HDG'.out hgood
          have hhd : (K.headD []).length = W := by
            cases K with
            | nil => have := HN.out; simp at this; omega
            | cons k r => exact hall k (by simp)
          rw [hhd, HN.out] at hrd
          obtain ⟨D, hDD⟩ : ∃ D, K.flatten = D := ⟨_, rfl⟩
          rw [hDD] at hC hD hrd
          have hC0 : RC w w2 Z W N m cap gs (Bd.mix W N D 0) := by rw [Bd.mix_zero]; exact hC
          have HC0 := Lib.hid hC0; have HD := Lib.hid hD; have HRD := Lib.hid hrd
          clear hC hC0 hD hrd hhd hgood hall hR hDD q0 q1 HROW HK0 HBW HBM HMI HQ HDB' HDG'
          go_upto_block 4 with fail
          go_cut [] (fun wx => RBrdM wx Z W N (Bd.close W N D) ∧ Mod none_ w wx)
          case first =>
            go_wp2
            go_loopw [14] (fun t wr => ∃ y : Nat, t = .int .i64 y ∧ y ≤ N ∧ RC w wr Z W N m cap gs (Bd.mix W N D (y * W))) (fun t _ => N - (intOf t).toNat)
            case atStart => exact ⟨0, rfl, by omega, by rw [Nat.zero_mul]; exact HC0.out⟩
            case round =>
              obtain ⟨y, rfl, hy, hC⟩ := hrel
              have HC := Lib.hid hC
              clear hC
              by_cases hyN : y < N
              · have hyN' : (y : Int) < (N : Int) := by omega
                obtain ⟨wo, rfl⟩ : ∃ wo : World, wo = wr := ⟨_, rfl⟩
                go_wp2_with fail
                go_loopw [15] (fun t wz => ∃ x : Nat, t = .int .i64 x ∧ x ≤ W ∧ RC w wz Z W N m cap gs (Bd.mix W N D (y * W + x))) (fun t _ => W - (intOf t).toNat)
                case atStart => exact ⟨0, rfl, by omega, HC.out⟩
                case round =>
                  obtain ⟨x, rfl, hx, hC⟩ := hrel
                  have HC2 := Lib.hid hC
                  clear hC
                  by_cases hxW : x < W
                  · have hxW' : (x : Int) < (W : Int) := by omega
                    have hml : (Bd.mix W N D (y * W + x)).length = W * N := by rw [Bd.mix_len]; exact HD.out
                    obtain ⟨g, c, e, hg, q0, q1, q2, f2, hWc⟩ := HC2.out.cells hml hyN hxW
                    have HRIM := Lib.hid (Bd.rim_at (H := N) (y := y) hxW)
                    have HSET := Lib.hid (HC2.out.set hml hyN hxW hg 35)
                    clear hml hg
                    by_cases hr : x = 0 ∨ y = 0 ∨ x = W - 1 ∨ y = N - 1
                    · have hset := HSET.out
                      rw [← Bd.mix_set (HRIM.out.2 hr)] at hset
                      have HS2 := Lib.hid hset
                      clear hset HSET
                      by_cases c1 : x = 0
                      · have e1 : ((x : Int) == 0) = true := by simp [c1]
                        clear c1 hr
                        go_wp2
                        go_roundw
                        case rel => exact ⟨x + 1, by go_num, by omega, HS2.out⟩
                        case measure => simp [intOf]; omega
                      · have e1 : ((x : Int) == 0) = false := by simp [c1]
                        by_cases c2 : y = 0
                        · have e2 : ((y : Int) == 0) = true := by simp [c2]
                          clear c1 c2 hr
                          go_wp2
                          go_roundw
                          case rel => exact ⟨x + 1, by go_num, by omega, HS2.out⟩
                          case measure => simp [intOf]; omega
                        · have e2 : ((y : Int) == 0) = false := by simp [c2]
                          by_cases c3 : x = W - 1
                          · have e3 : ((x : Int) == (W : Int) - 1) = true := by simp; omega
                            clear c1 c2 c3 hr
                            go_wp2
                            go_roundw
                            case rel => exact ⟨x + 1, by go_num, by omega, HS2.out⟩
                            case measure => simp [intOf]; omega
                          · have e3 : ((x : Int) == (W : Int) - 1) = false := by simp; omega
                            have e4 : ((y : Int) == (N : Int) - 1) = true := by simp; omega
                            clear c1 c2 c3 hr
                            go_wp2
                            go_roundw
                            case rel => exact ⟨x + 1, by go_num, by omega, HS2.out⟩
                            case measure => simp [intOf]; omega
                    · have hk := HC2.out
                      rw [← Bd.mix_keep (fun h => hr (HRIM.out.1 h))] at hk
                      have HK2 := Lib.hid hk
                      have e1 : ((x : Int) == 0) = false := by simp; omega
                      have e2 : ((y : Int) == 0) = false := by simp; omega
                      have e3 : ((x : Int) == (W : Int) - 1) = false := by simp; omega
                      have e4 : ((y : Int) == (N : Int) - 1) = false := by simp; omega
                      clear hk hr HSET
                      go_wp2
                      go_roundw
                      case rel => exact ⟨x + 1, by go_num, by omega, HK2.out⟩
                      case measure => simp [intOf]; omega
                  · have hxW' : ¬ (x : Int) < (W : Int) := by omega
                    have hC := HC2.out
                    rw [show x = W by omega, ← Nat.succ_mul] at hC
                    have HC3 := Lib.hid hC
                    clear hC
                    go_wp2
                    go_roundw
                    case rel => exact ⟨y + 1, by go_num, by omega, HC3.out⟩
                    case measure => simp [intOf]; omega
              · have hyN' : ¬ (y : Int) < (N : Int) := by omega
                have hC := HC.out
                have e : y * W = D.length := by rw [HD.out, show y = N by omega, Nat.mul_comm]
                rw [e, Bd.mix_all] at hC
                have HC3 := Lib.hid hC
                clear hC e
                go_wp2
                go_meet
                exact ⟨HC3.out.toM ⟨hw3, hw64⟩ ⟨by omega, by omega⟩ (by unfold Bd.close; rw [List.length_mapIdx]; exact HD.out), HC3.out.mod⟩
          case rest =>
            obtain ⟨hBM, hMc⟩ := hcut
            have hsp := rspawns_any wc hBM
            have HSP2 := Lib.hid hsp; have HBM2 := Lib.hid hBM; have HMC := Lib.hid hMc
            clear hsp hBM hMc HC0
            go_wp2_with fail
            refine HSP2.out.mono ?_
            rintro r w6 ⟨u, rfl, hu, hM6⟩
            have HMI := Lib.hid (HMC.out.then hM6)
            have HB6 := Lib.hid (HBM2.out.none hM6)
            obtain ⟨ua, ucap, rfl⟩ : ∃ a c, u = .slice a (Bd.spawns W (Bd.close W N D)).length c := by
              rcases hu.2 with ⟨h1, h2⟩ | ⟨g', cap', cur, h1, _⟩
              · exact ⟨none, 0, by rw [h1, h2]⟩
              · exact ⟨_, _, h1⟩
            clear hu hM6
            by_cases h0 : Bd.spawns W (Bd.close W N D) = []
            · have hrp : RR = .place := by rw [HRD.out]; unfold Bd.shut; rw [if_pos h0]
              have hl0 : (Bd.spawns W (Bd.close W N D)).length = 0 := by rw [h0]; rfl
              rw [hl0]
              have HRP := Lib.hid hrp
              clear hrp h0 hl0
              go_wp2
              go_ret2
              rw [HRP.out]
              exact ⟨rfl, HMI.out⟩
            · have hrp : RR = .board W N (Bd.close W N D) := by rw [HRD.out]; unfold Bd.shut; rw [if_neg h0]
              have hfine : Bd.Fine W N (Bd.close W N D) := Bd.read_fine (HRR.out.trans hrp)
              obtain ⟨n, hn⟩ : ∃ n, (Bd.spawns W (Bd.close W N D)).length = n + 1 := by
                cases hl : Bd.spawns W (Bd.close W N D) with
                | nil => exact absurd hl h0
                | cons x r => exact ⟨r.length, rfl⟩
              rw [hn]
              have em : (((n + 1 : Nat) : Int) == 0) = false := by simp; omega
              have em2 : ((n : Int) + 1 == 0) = false := by simp; omega
              have HRP := Lib.hid hrp; have HFI := Lib.hid hfine
              clear hrp hfine h0 hn
              go_wp2
              go_ret2
              rw [HRP.out]
              exact ⟨⟨Z, rfl, by have := HZ.out; omega, HFI.out, HB6.out.mem⟩, HMI.out⟩
end Go.Proofs.YtinjlkceplhibaaDoor
