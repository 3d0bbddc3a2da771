/- SHA: the plain words. -/
import Derived.Test.YtlndgnlkfhlekaaDoorBase
namespace Go.Proofs.YtlndgnlkfhlekaaDoor
namespace Sha
/-- x turned to the right by n places -/
def rot (x : Int) (n : Nat) : Int := bits BinOp.or IntKind.u32 (x * 2 ^ (32 - n) % 4294967296) (x / 2 ^ n)
def g (l : List Int) (i : Nat) : Int := l[i]?.getD 0
def xor (a b : Int) : Int := bits BinOp.xor IntKind.u32 a b
def and (a b : Int) : Int := bits BinOp.and IntKind.u32 a b
def or (a b : Int) : Int := bits BinOp.or IntKind.u32 a b
def word4 (a b c d : Int) : Int := or (or (or (a * 16777216) (b * 65536)) (c * 256)) d
def word (blk : List Int) (k : Nat) : Int := word4 (g blk (4 * k)) (g blk (4 * k + 1)) (g blk (4 * k + 2)) (g blk (4 * k + 3))
def s0 (x : Int) : Int := xor (xor (rot x 7) (rot x 18)) (x / 8)
def s1 (x : Int) : Int := xor (xor (rot x 17) (rot x 19)) (x / 1024)
def next (a b c d : Int) : Int := (s1 a + b + s0 c + d) % 4294967296
def sched (blk : List Int) : Nat → List Int
  | 0 => []
  | t + 1 => sched blk t ++ [if t < 16 then word blk t else next (g (sched blk t) (t - 2)) (g (sched blk t) (t - 7)) (g (sched blk t) (t - 15)) (g (sched blk t) (t - 16))]
def zeros (n : Nat) : List Int := List.replicate n 0
def bs1 (e : Int) : Int := xor (xor (rot e 6) (rot e 11)) (rot e 25)
def bs0 (a : Int) : Int := xor (xor (rot a 2) (rot a 13)) (rot a 22)
def inv (e : Int) : Int := xor IntKind.u32.max e
def ch (e f g : Int) : Int := xor (and e f) (and (inv e) g)
def maj (a b c : Int) : Int := xor (xor (and a b) (and a c)) (and b c)
def tx (h e f g k w : Int) : Int := (h + bs1 e + ch e f g + k + w) % 4294967296
def ty (a b c : Int) : Int := (bs0 a + maj a b c) % 4294967296
structure V where
  (a b c d e f g h : Int)
def V.list (v : V) : List Int := [v.a, v.b, v.c, v.d, v.e, v.f, v.g, v.h]
def V.of (l : List Int) : V := ⟨Sha.g l 0, Sha.g l 1, Sha.g l 2, Sha.g l 3, Sha.g l 4, Sha.g l 5, Sha.g l 6, Sha.g l 7⟩
def V.ok (v : V) : Prop := ∀ x ∈ v.list, 0 ≤ x ∧ x ≤ 4294967295
def step (v : V) (k w : Int) : V :=
  ⟨(tx v.h v.e v.f v.g k w + ty v.a v.b v.c) % 4294967296, v.a, v.b, v.c, (v.d + tx v.h v.e v.f v.g k w) % 4294967296, v.e, v.f, v.g⟩
def K : List Int := [1116352408, 1899447441, 3049323471, 3921009573, 961987163, 1508970993, 2453635748, 2870763221, 3624381080, 310598401, 607225278, 1426881987, 1925078388, 2162078206, 2614888103, 3248222580, 3835390401, 4022224774, 264347078, 604807628, 770255983, 1249150122, 1555081692, 1996064986, 2554220882, 2821834349, 2952996808, 3210313671, 3336571891, 3584528711, 113926993, 338241895, 666307205, 773529912, 1294757372, 1396182291, 1695183700, 1986661051, 2177026350, 2456956037, 2730485921, 2820302411, 3259730800, 3345764771, 3516065817, 3600352804, 4094571909, 275423344, 430227734, 506948616, 659060556, 883997877, 958139571, 1322822218, 1537002063, 1747873779, 1955562222, 2024104815, 2227730452, 2361852424, 2428436474, 2756734187, 3204031479, 3329325298]
def steps (v : V) (ws : List Int) : Nat → V
  | 0 => v
  | t + 1 => step (steps v ws t) (g K t) (g ws t)
def add32 (a b : Int) : Int := (a + b) % 4294967296
def plus (v u : V) : V := ⟨add32 v.a u.a, add32 v.b u.b, add32 v.c u.c, add32 v.d u.d, add32 v.e u.e, add32 v.f u.f, add32 v.g u.g, add32 v.h u.h⟩
/-- the sum behind one block -/
def mix (v : V) (blk : List Int) : V := plus v (steps v (sched blk 64) 64)

def wcells (ws : List Int) : List Value := ws.map (Value.int .u32)
def bcells (bs : List Int) : List Value := bs.map (Value.int .u8)
def hl (S blk : List Int) (at_ n : Int) : List Value := wcells S ++ (bcells blk ++ [.int .i64 at_, .int .u64 n])
def hcells (v : V) (blk : List Int) (at_ n : Int) : List Value := hl v.list blk at_ n
/-- the sum's words when k of them are added -/
def part (v u : V) (k : Nat) : List Int := (plus v u).list.take k ++ v.list.drop k

/-! bounds -/
theorem bits_u32_bd (op : BinOp) (a b : Int) : 0 ≤ bits op IntKind.u32 a b ∧ bits op IntKind.u32 a b ≤ 4294967295 := ⟨bits_lo_u32 op a b, bits_hi_u32 op a b⟩
theorem rot_bd (x : Int) (n : Nat) : 0 ≤ rot x n ∧ rot x n ≤ 4294967295 := bits_u32_bd _ _ _
theorem xor_bd (a b : Int) : 0 ≤ xor a b ∧ xor a b ≤ 4294967295 := bits_u32_bd _ _ _
theorem and_bd (a b : Int) : 0 ≤ and a b ∧ and a b ≤ 4294967295 := bits_u32_bd _ _ _
theorem or_bd (a b : Int) : 0 ≤ or a b ∧ or a b ≤ 4294967295 := bits_u32_bd _ _ _
theorem s0_bd (x : Int) : 0 ≤ s0 x ∧ s0 x ≤ 4294967295 := xor_bd _ _
theorem s1_bd (x : Int) : 0 ≤ s1 x ∧ s1 x ≤ 4294967295 := xor_bd _ _
theorem bs0_bd (x : Int) : 0 ≤ bs0 x ∧ bs0 x ≤ 4294967295 := xor_bd _ _
theorem bs1_bd (x : Int) : 0 ≤ bs1 x ∧ bs1 x ≤ 4294967295 := xor_bd _ _
theorem ch_bd (a b c : Int) : 0 ≤ ch a b c ∧ ch a b c ≤ 4294967295 := xor_bd _ _
theorem maj_bd (a b c : Int) : 0 ≤ maj a b c ∧ maj a b c ≤ 4294967295 := xor_bd _ _
theorem word4_bd (a b c d : Int) : 0 ≤ word4 a b c d ∧ word4 a b c d ≤ 4294967295 := or_bd _ _
theorem next_bd (a b c d : Int) : 0 ≤ next a b c d ∧ next a b c d ≤ 4294967295 := by unfold next; omega
theorem tx_bd (h e f g k w : Int) : 0 ≤ tx h e f g k w ∧ tx h e f g k w ≤ 4294967295 := by unfold tx; omega
theorem ty_bd (a b c : Int) : 0 ≤ ty a b c ∧ ty a b c ≤ 4294967295 := by unfold ty; omega
theorem V.ok_iff (v : V) : v.ok ↔ (0 ≤ v.a ∧ v.a ≤ 4294967295) ∧ (0 ≤ v.b ∧ v.b ≤ 4294967295) ∧ (0 ≤ v.c ∧ v.c ≤ 4294967295) ∧ (0 ≤ v.d ∧ v.d ≤ 4294967295) ∧ (0 ≤ v.e ∧ v.e ≤ 4294967295) ∧ (0 ≤ v.f ∧ v.f ≤ 4294967295) ∧ (0 ≤ v.g ∧ v.g ≤ 4294967295) ∧ (0 ≤ v.h ∧ v.h ≤ 4294967295) := by
  simp [V.ok, V.list]
theorem step_ok {v : V} (hv : v.ok) (k w : Int) : (step v k w).ok := by
  rw [V.ok_iff] at *; simp only [step]; omega
theorem steps_ok {v : V} (hv : v.ok) (ws : List Int) (t : Nat) : (steps v ws t).ok := by
  induction t with
  | zero => exact hv
  | succ t ih => exact step_ok ih _ _
theorem plus_ok (v u : V) : (plus v u).ok := by rw [V.ok_iff]; simp only [plus, add32]; omega
theorem mix_ok (v : V) (blk : List Int) : (mix v blk).ok := plus_ok _ _

theorem steps_zero (v : V) (ws : List Int) : steps v ws 0 = v := rfl
theorem steps_succ (v : V) (ws : List Int) (t : Nat) : steps v ws (t + 1) = step (steps v ws t) (g K t) (g ws t) := rfl
theorem K_bd (i : Nat) : 0 ≤ g K i ∧ g K i ≤ 4294967295 := by
  have h : ∀ x ∈ K, 0 ≤ x ∧ x ≤ 4294967295 := by decide
  unfold g
  cases e : K[i]? with
  | none => simp
  | some x => exact h x (List.mem_of_getElem? e)

/-! lists -/
theorem one_w (ws : List Int) : ∀ v ∈ wcells ws, v.oneCell' = true := by
  intro v hv; simp only [wcells, List.mem_map] at hv; obtain ⟨x, _, rfl⟩ := hv; rfl
theorem one_b (bs : List Int) : ∀ v ∈ bcells bs, v.oneCell' = true := by
  intro v hv; simp only [bcells, List.mem_map] at hv; obtain ⟨x, _, rfl⟩ := hv; rfl
theorem length_sched (blk : List Int) (t : Nat) : (sched blk t).length = t := by
  induction t with
  | zero => rfl
  | succ t ih => simp [sched, ih]
theorem sched_bd (blk : List Int) (t i : Nat) : 0 ≤ g (sched blk t) i ∧ g (sched blk t) i ≤ 4294967295 := by
  induction t with
  | zero => simp [g, sched]
  | succ t ih =>
    by_cases h : i < t
    · have : g (sched blk (t + 1)) i = g (sched blk t) i := by simp [g, sched, List.getElem?_append, length_sched, h]
      rw [this]; exact ih
    · by_cases e : i = t
      · subst e
        have : g (sched blk (i + 1)) i = if i < 16 then word blk i else next (g (sched blk i) (i - 2)) (g (sched blk i) (i - 7)) (g (sched blk i) (i - 15)) (g (sched blk i) (i - 16)) := by
          simp [g, sched, length_sched]
        rw [this]; split
        · exact word4_bd _ _ _ _
        · exact next_bd _ _ _ _
      · have : g (sched blk (t + 1)) i = 0 := by
          have hl : (sched blk (t + 1)).length ≤ i := by rw [length_sched]; omega
          simp [g, List.getElem?_eq_none hl]
        rw [this]; omega
theorem get_wcells (ws : List Int) (i : Nat) (h : i < ws.length) : (wcells ws)[i]? = some (.int .u32 (g ws i)) := by
  simp [wcells, g, List.getElem?_eq_getElem h]
theorem get_sched_zeros (blk : List Int) (t i : Nat) (h : i < t) : (wcells (sched blk t ++ zeros (64 - t)))[i]? = some (.int .u32 (g (sched blk t) i)) := by
  have hl := length_sched blk t
  rw [get_wcells _ _ (by simp; omega)]
  simp [g, List.getElem?_append, hl, h]
theorem get_sched_zero (blk : List Int) (t i : Nat) (ht : t ≤ i) (h : i < 64) : (wcells (sched blk t ++ zeros (64 - t)))[i]? = some (.int .u32 0) := by
  have hl := length_sched blk t
  rw [get_wcells _ _ (by simp [zeros]; omega)]
  simp only [g, List.getElem?_append, hl, if_neg (by omega : ¬ i < t), zeros, List.getElem?_replicate]
  split <;> rfl
theorem set_sched (blk : List Int) (t : Nat) (h : t < 64) (x : Int) (hx : x = if t < 16 then word blk t else next (g (sched blk t) (t - 2)) (g (sched blk t) (t - 7)) (g (sched blk t) (t - 15)) (g (sched blk t) (t - 16))) :
    (wcells (sched blk t ++ zeros (64 - t))).set t (.int .u32 x) = wcells (sched blk (t + 1) ++ zeros (64 - (t + 1))) := by
  have hl := length_sched blk t
  subst hx
  have hz : zeros (64 - t) = 0 :: zeros (64 - (t + 1)) := by
    have : 64 - t = (64 - (t + 1)) + 1 := by omega
    rw [zeros, this, List.replicate_succ]; rfl
  rw [hz]
  simp only [wcells, ← List.map_set]
  congr 1
  rw [List.set_append_right _ _ (by omega), hl]
  simp [sched]
theorem wcells_zeros : wcells (sched [] 0 ++ zeros 64) = List.replicate 64 (.int .u32 0) := by simp [wcells, sched, zeros]
theorem get_h_sum (v : V) (blk : List Int) (a n : Int) (i : Nat) (h : i < 8) : (hcells v blk a n)[i]? = some (.int .u32 (g v.list i)) := by
  rw [hcells, hl, List.getElem?_append_left (by simp [wcells, V.list]; omega)]
  exact get_wcells _ _ (by simp [V.list]; omega)
theorem get_h_blk (v : V) (blk : List Int) (a n : Int) (i : Nat) (h : i < blk.length) : (hcells v blk a n)[8 + i]? = some (.int .u8 (g blk i)) := by
  have h8 : (wcells v.list).length = 8 := by simp [wcells, V.list]
  rw [hcells, hl, List.getElem?_append_right (by omega), h8, show 8 + i - 8 = i by omega, List.getElem?_append_left (by simp [bcells]; omega)]
  simp [bcells, g, List.getElem?_eq_getElem h]
theorem get_h_at (v : V) (blk : List Int) (a n : Int) (hb : blk.length = 64) : (hcells v blk a n)[72]? = some (.int .i64 a) := by
  have h8 : (wcells v.list).length = 8 := by simp [wcells, V.list]
  have h64 : (bcells blk).length = 64 := by simp [bcells, hb]
  rw [hcells, hl, List.getElem?_append_right (by omega), h8, List.getElem?_append_right (by omega), h64]; rfl
theorem get_h_n (v : V) (blk : List Int) (a n : Int) (hb : blk.length = 64) : (hcells v blk a n)[73]? = some (.int .u64 n) := by
  have h8 : (wcells v.list).length = 8 := by simp [wcells, V.list]
  have h64 : (bcells blk).length = 64 := by simp [bcells, hb]
  rw [hcells, hl, List.getElem?_append_right (by omega), h8, List.getElem?_append_right (by omega), h64]; rfl
theorem set_h_at (v : V) (blk : List Int) (a n : Int) (hb : blk.length = 64) (x : Int) : (hcells v blk a n).set 72 (.int .i64 x) = hcells v blk x n := by
  have h8 : (wcells v.list).length = 8 := by simp [wcells, V.list]
  have h64 : (bcells blk).length = 64 := by simp [bcells, hb]
  rw [hcells, hl, List.set_append_right _ _ (by omega), h8, List.set_append_right _ _ (by omega), h64]; rfl
theorem set_h_n (v : V) (blk : List Int) (a n : Int) (hb : blk.length = 64) (x : Int) : (hcells v blk a n).set 73 (.int .u64 x) = hcells v blk a x := by
  have h8 : (wcells v.list).length = 8 := by simp [wcells, V.list]
  have h64 : (bcells blk).length = 64 := by simp [bcells, hb]
  rw [hcells, hl, List.set_append_right _ _ (by omega), h8, List.set_append_right _ _ (by omega), h64]; rfl
theorem get_hl (S blk : List Int) (a n : Int) (i : Nat) (h : i < S.length) : (hl S blk a n)[i]? = some (.int .u32 (g S i)) := by
  rw [hl, List.getElem?_append_left (by simp [wcells]; omega)]
  exact get_wcells _ _ h
theorem set_hl (S blk : List Int) (a n : Int) (i : Nat) (h : i < S.length) (x : Int) : (hl S blk a n).set i (.int .u32 x) = hl (S.set i x) blk a n := by
  rw [hl, List.set_append_left _ _ (by simp [wcells]; omega)]
  simp [hl, wcells]
theorem length_part (v u : V) (k : Nat) (h : k ≤ 8) : (part v u k).length = 8 := by simp [part, V.list]; omega
theorem below8 {k : Nat} (h : k < 8) : k = 0 ∨ k = 1 ∨ k = 2 ∨ k = 3 ∨ k = 4 ∨ k = 5 ∨ k = 6 ∨ k = 7 := by omega
theorem g_part (v u : V) (k : Nat) (h : k < 8) : g (part v u k) k = g v.list k := by
  rcases below8 h with rfl | rfl | rfl | rfl | rfl | rfl | rfl | rfl <;> rfl
theorem set_part (v u : V) (k : Nat) (h : k < 8) : (part v u k).set k (add32 (g v.list k) (g u.list k)) = part v u (k + 1) := by
  rcases below8 h with rfl | rfl | rfl | rfl | rfl | rfl | rfl | rfl <;> rfl
theorem part_zero (v u : V) : part v u 0 = v.list := by simp [part]
theorem part_eight (v u : V) : part v u 8 = (plus v u).list := rfl
theorem V.bd {v : V} (h : v.ok) (k : Nat) : 0 ≤ Sha.g v.list k ∧ Sha.g v.list k ≤ 4294967295 := by
  unfold Sha.g
  cases e : v.list[k]? with
  | none => simp
  | some x => exact h x (List.mem_of_getElem? e)
theorem mix_eq (v : V) (blk : List Int) : plus v (steps v (sched blk 64) 64) = mix v blk := rfl
theorem add32_eq (a b : Int) : add32 a b = (a + b) % 4294967296 := rfl
attribute [irreducible] sched steps mix K rot word4 next tx ty bs0 bs1 ch maj xor and or add32
end Sha
end Go.Proofs.YtlndgnlkfhlekaaDoor
