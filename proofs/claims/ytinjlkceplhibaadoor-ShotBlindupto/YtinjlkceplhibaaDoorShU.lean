/- A list of cars within a struct among the arguments; Blind opened. -/
import Derived.Test.YtinjlkceplhibaaDoorShQ
import Derived.Test.YtinjlkceplhibaaDoorOpenS
namespace Go.Proofs.YtinjlkceplhibaaDoor
open Go.RowKit Go.ChangeShapes Go.WideShapes Go.ChangeAt Go.Deep

/-- a slice of structs within a struct -/
theorem structs_trod {H : Type} {enc : TypeId × Value → H} {P : Program} {W : World} {fuel : Nat} {cs : List Value} {x : DataW H × List MemPlace} {ts te : TypeId} {K : Nat} (ht : P.underlying ts = some (.slice te)) (hc : P.cellsOf te = K) (hK : 0 < K)
    (hf : DataW.trod enc P W 0 (fun _ => true) true fuel ts cs = some x) {Good : List Value → DataW H → Prop} (fields : ∀ fuel cs x, DataW.trod enc P W 0 (fun _ => true) true fuel te cs = some x → Good cs x.1) :
    ∃ (sa : Option Addr) (n c : Nat) (C : Nat → List Value) (D : Nat → DataW H), cs = [.slice sa n c] ∧ n ≤ c ∧ c ≤ maxLen ∧ (∀ i, i < n → (C i).length = K ∧ Good (C i) (D i)) ∧ ((x.1 = .nil ∧ n = 0 ∧ c = 0 ∧ sa = none) ∨ ∃ sp, x.1 = .slice ((List.range n).map D) sp) ∧
      (0 < n → ∃ b off, sa = some ⟨b, off, none⟩ ∧ b < W.heap.size ∧ ∀ i, i < n → ∀ f v, (C i)[f]? = some v → W.cell? ⟨b, off + i * K + f, none⟩ = some v) := by
  rcases open_slice ht hf with ⟨hcs, hx⟩ | ⟨a, len, cap, m, k, D, Pl, hcs, _, hle, hmx, hm, hx, hcell⟩
  · subst hcs
    exact ⟨none, 0, 0, fun _ => [], fun _ => .nil, rfl, Nat.le_refl _, Nat.zero_le _, fun i hi => by omega, Or.inl ⟨by rw [hx], rfl, rfl, rfl⟩, fun h => absurd h (by omega)⟩
  · subst hcs
    simp only [if_true] at hm
    rw [hc] at hcell
    have each : ∀ i, i < len → ∃ cs : List Value, cs.length = K ∧ (∀ f v, cs[f]? = some v → W.cell? ((a.add (i * K)).add f) = some v) ∧ Good cs (D i) := fun i hi => by
      obtain ⟨cs', hc', ht'⟩ := hcell i (by omega)
      obtain ⟨_, hl, hat⟩ := World.cells?_some hc'
      refine ⟨cs', hl, fun f v hv => ?_, fields _ _ _ ht'⟩
      have : f < K := by have := (List.getElem?_eq_some_iff.1 hv).1; omega
      rw [hat f this, hv]
    obtain ⟨C, hC⟩ := choose_lt each
    have hd : x.1 = .slice ((List.range len).map fun i => D i) ((List.range (m - len)).map fun j => D (len + j)) := by rw [hx]
    refine ⟨some a, len, cap, C, D, rfl, hle, hmx, fun i hi => ⟨(hC i hi).1, (hC i hi).2.2⟩, Or.inr ⟨_, hd⟩, fun hp => ?_⟩
    obtain ⟨b, off, rfl, h3⟩ := rowk_at (n := len) (C := C) hK (fun i hi => (hC i hi).1) (fun i hi => (hC i hi).2.1) hp
    obtain ⟨v, hv⟩ : ∃ v, (C 0)[0]? = some v := ⟨_, List.getElem?_eq_getElem (by rw [(hC 0 hp).1]; exact hK)⟩
    exact ⟨b, off, rfl, World.block_lt_of_cell? _ _ (h3 0 hp 0 v hv), h3⟩

theorem cars_trod {H : Type} {enc : TypeId × Value → H} {W : World} {fuel : Nat} {cs : List Value} {x : DataW H × List MemPlace}
    (h : DataW.trod enc Tryd.prog W 0 (fun _ => true) true fuel 32 cs = some x) :
    ∃ (sa : Option Addr) (n c : Nat) (L : List Cr), cs = [.slice sa n c] ∧ L.length = n ∧ Crs W W.heap.size sa L ∧ n ≤ Rows.uptoBulk x.1 := by
  obtain ⟨sa, n, c, C, D, rfl, h1, h2, h3, h4, h5⟩ := structs_trod (K := 14) Tryd.underlying32 (by kernel_rfl) (by decide) h (Good := fun cs _ => ∃ c : Cr, cs = c.cells ∧ c.Ok) car_parts
  obtain ⟨f, hf⟩ := pick_cars C n (fun i hi => (h3 i hi).2)
  refine ⟨sa, n, c, (List.range n).map f, rfl, by simp, ⟨fun hp => ?_, fun c hc => ?_⟩, ?_⟩
  · obtain ⟨b, off, k1, k2, k3⟩ := h5 (by simpa using hp)
    refine ⟨b, off, k1, k2, fun i c hc j v hv => ?_⟩
    have hi : i < n := by have := (List.getElem?_eq_some_iff.1 hc).1; simpa using this
    have hci : f i = c := by
      rw [List.getElem?_map, List.getElem?_range hi] at hc
      exact Option.some.inj hc
    exact k3 i hi j v (by rw [(hf i hi).1, hci]; exact hv)
  · obtain ⟨i, hi, rfl⟩ := List.mem_map.1 hc
    exact (hf i (List.mem_range.1 hi)).2
  · rcases h4 with ⟨hd, rfl, _⟩ | ⟨sp, hd⟩
    · exact Nat.zero_le _
    · rw [hd]
      have := bulks.slice_le ((List.range n).map D) sp
      rw [List.length_map, List.length_range] at this
      omega
set_option maxRecDepth 100000 in
theorem blind_open {H : Type} {enc : TypeId × Value → H} {W : World} {r : Reach} {b0 : Nat} {v : Value} {d : DataW H} {ps : List MemPlace}
    (hval : Value.okWide Tryd.prog W r b0 53 v) (h : DataW.Trod enc Tryd.prog W 0 (fun _ => true) true 53 v d ps) :
    ∃ (text : ByteArray) (sa sb : Option Addr) (n cp m cm : Nat) (C Wk : List Cr) (s : Sh), v = .agg #[.string text, .slice sa n cp, .int .i64 s.id, .int .i64 s.player, .int .i64 s.ax, .int .i64 s.ay, .int .i64 s.sx, .int .i64 s.sy, .int .i64 s.left, .slice sb m cm] ∧
      C.length = n ∧ Wk.length = m ∧ Crs W W.heap.size sa C ∧ Crs W W.heap.size sb Wk ∧ s.Ok ∧ text.size + n + m ≤ Rows.uptoBulk d := by
  obtain ⟨ca, rfl, hcs⟩ := okWide_struct Tryd.underlying53 hval
  obtain ⟨fuel, h⟩ := h
  obtain ⟨xs, n, hn, hx, hl, hxl, hf⟩ := DataW.trod_struct Tryd.underlying53 h
  have hca : (Value.agg ca).cells.toList = ca.toList := by simp [Value.cells]
  have cK : Tryd.prog.cellsOf 53 = 10 := by kernel_rfl
  have csh : Tryd.prog.cellsOf 28 = 7 := by kernel_rfl
  have csl : Tryd.prog.cellsOf 32 = 1 := by kernel_rfl
  have cst : Tryd.prog.cellsOf 9 = 1 := by kernel_rfl
  rw [cK] at hl
  obtain ⟨cs, hcs2⟩ : ∃ cs, (Value.agg ca).cells.toList = cs := ⟨_, rfl⟩
  rw [hcs2] at hl hf hca
  match cs, hl with
  | [v0, v1, v2, v3, v4, v5, v6, v7, v8, v9], _ =>
    match xs, hxl with
    | [y0, y1, y2, y3], _ =>
      have f0 : DataW.trod enc Tryd.prog W 0 (fun _ => true) true n 9 (([v0, v1, v2, v3, v4, v5, v6, v7, v8, v9].drop 0).take (Tryd.prog.cellsOf 9)) = some y0 := hf 0 _ rfl
      rw [cst] at f0
      obtain ⟨text, h0, e0, q0⟩ := DataW.trod_string Tryd.underlying9 f0
      simp at h0
      have f1 : DataW.trod enc Tryd.prog W 0 (fun _ => true) true n 32 (([v0, v1, v2, v3, v4, v5, v6, v7, v8, v9].drop 1).take (Tryd.prog.cellsOf 32)) = some y1 := hf 1 _ rfl
      rw [csl] at f1
      obtain ⟨sa, n1, c1, C, h1, l1, k1, b1⟩ := cars_trod f1
      simp at h1
      have f2 : DataW.trod enc Tryd.prog W 0 (fun _ => true) true n 28 (([v0, v1, v2, v3, v4, v5, v6, v7, v8, v9].drop 2).take (Tryd.prog.cellsOf 28)) = some y2 := hf 2 _ rfl
      rw [csh] at f2
      obtain ⟨s, h2, hok⟩ := shot_parts _ _ _ f2
      unfold Sh.cells at h2
      simp at h2
      have f3 : DataW.trod enc Tryd.prog W 0 (fun _ => true) true n 32 (([v0, v1, v2, v3, v4, v5, v6, v7, v8, v9].drop 9).take (Tryd.prog.cellsOf 32)) = some y3 := hf 3 _ rfl
      rw [csl] at f3
      obtain ⟨sb, n2, c2, Wk, h3, l2, k2, b2⟩ := cars_trod f3
      simp at h3
      have hd : d = .agg [y0.1, y1.1, y2.1, y3.1] := by injection hx
      have hz : (Rows.uptoBulk d) = Rows.uptoBulk y0.1 + (Rows.uptoBulk y1.1 + (Rows.uptoBulk y2.1 + (Rows.uptoBulk y3.1 + 0))) + 1 := by rw [hd]; rfl
      have hs0 : Rows.uptoBulk y0.1 = text.size + 1 := by rw [e0]; exact bulks.string_eq _
      refine ⟨text, sa, sb, n1, c1, n2, c2, C, Wk, s, ?_, l1, l2, k1, k2, hok, by omega⟩
      have he : ca = [v0, v1, v2, v3, v4, v5, v6, v7, v8, v9].toArray := by rw [hca]
      rw [he, h0, h1, h2.1, h2.2.1, h2.2.2.1, h2.2.2.2.1, h2.2.2.2.2.1, h2.2.2.2.2.2.1, h2.2.2.2.2.2.2, h3]
end Go.Proofs.YtinjlkceplhibaaDoor
