/- A list of loads that came in. -/
import Derived.Test.YtdlcjieaoalhoaaBusLoad
import Derived.Test.YtdlcjieaoalhoaaOpen
import Derived.Deep.Slices
import Derived.SizedLaws
set_option linter.unusedVariables false
namespace Go.Proofs.Ytdlcjieaoalhoaa.Bs
open Go.RowKit Go.Proofs.Ytdlcjieaoalhoaa Crc Go.ChangeShapes Go.WideShapes

theorem weights_in_all {H : Type} {P : Program} {e : TypeId} : ∀ {l : List (DataW H)} {d : DataW H}, d ∈ l → ∀ x ∈ d.weights P e, x ∈ DataW.weightsAll P e l
  | y :: l, d, h, x, hx => by
    simp only [DataW.weightsAll, List.mem_append]
    rcases List.mem_cons.1 h with rfl | h
    · exact .inl hx
    · exact .inr (weights_in_all h x hx)
instance : Inhabited Ld := ⟨⟨0, 0, 0, none, 0, 0, []⟩⟩

set_option maxRecDepth 100000 in
theorem load_at {H : Type} {enc : TypeId × Value → H} {W : World} {fuel : Nat} {cs : List Value} {x : DataW H × List MemPlace} (hl : cs.length = 4)
    (h : DataW.trod enc Try.prog W 0 (fun _ => true) true fuel 38 cs = some x) (hw : ∀ y ∈ x.1.weights Try.prog 38, y ≤ reachBytes) :
    ∃ D : Ld, cs = [.int .i64 D.fr, .int .i64 D.to, .int .i64 D.dl, .slice D.A D.n D.c] ∧ Ints W .u8 D.A D.n D.zs ∧ (D.A = none → D.n = 0 ∧ D.c = 0) ∧ D.n ≤ 140737488351232 ∧ Byts8 D.zs := by
  match cs, hl with
  | [v0, v1, v2, v3], _ =>
    obtain ⟨xs, k, _, hxx, _, hxl, hf⟩ := DataW.trod_struct Try.underlying38 h
    match xs, hxl with
    | [y0, y1, y2, y3], _ =>
      have c1 : Try.prog.cellsOf 3 = 1 := by kernel_rfl
      have c2 : Try.prog.cellsOf 33 = 1 := by kernel_rfl
      have g0 : DataW.trod enc Try.prog W 0 (fun _ => true) true k 3 ((([v0, v1, v2, v3] : List Value).drop 0).take (Try.prog.cellsOf 3)) = some y0 := hf 0 _ rfl
      rw [c1] at g0
      change DataW.trod enc Try.prog W 0 (fun _ => true) true k 3 [v0] = some y0 at g0
      have g1 : DataW.trod enc Try.prog W 0 (fun _ => true) true k 3 ((([v0, v1, v2, v3] : List Value).drop 1).take (Try.prog.cellsOf 3)) = some y1 := hf 1 _ rfl
      rw [c1] at g1
      change DataW.trod enc Try.prog W 0 (fun _ => true) true k 3 [v1] = some y1 at g1
      have g2 : DataW.trod enc Try.prog W 0 (fun _ => true) true k 3 ((([v0, v1, v2, v3] : List Value).drop 2).take (Try.prog.cellsOf 3)) = some y2 := hf 2 _ rfl
      rw [c1] at g2
      change DataW.trod enc Try.prog W 0 (fun _ => true) true k 3 [v2] = some y2 at g2
      have g3 : DataW.trod enc Try.prog W 0 (fun _ => true) true k 33 ((([v0, v1, v2, v3] : List Value).drop 3).take (Try.prog.cellsOf 33)) = some y3 := hf 3 _ rfl
      rw [c2] at g3
      change DataW.trod enc Try.prog W 0 (fun _ => true) true k 33 [v3] = some y3 at g3
      obtain ⟨z0, e0, _, _⟩ := DataW.trod_int Try.underlying3 g0
      obtain ⟨z1, e1, _, _⟩ := DataW.trod_int Try.underlying3 g1
      obtain ⟨z2, e2, _, _⟩ := DataW.trod_int Try.underlying3 g2
      obtain ⟨A, n, c, e3, hA⟩ : ∃ A n c, v3 = .slice A n c ∧ (A = none → n = 0 ∧ c = 0) := by
        rcases DataW.trod_slice Try.underlying33 g3 with ⟨he, _⟩ | ⟨a, len, cap, _, _, _, _, he, _⟩
        · exact ⟨none, 0, 0, by simpa using he, fun _ => ⟨rfl, rfl⟩⟩
        · exact ⟨some a, len, cap, by simpa using he, fun e => by cases e⟩
      injection e0 with e0; injection e1 with e1; injection e2 with e2
      subst e0 e1 e2 e3
      have hb : Try.prog.bytesOf 5 = 1 := by kernel_rfl
      obtain ⟨zs, hI, hz, hnc, hr⟩ := ints_in Try.underlying33 Try.underlying5 (by kernel_rfl) (enc := enc) (d := y3.1) (p := y3.2) ⟨k, g3⟩ (by
        intro es sp he
        have hm := DataW.weights_mem_each (P := Try.prog) (ts := [3, 3, 3, 33]) (ds := [y0.1, y1.1, y2.1, y3.1]) (j := 3) rfl rfl ((es.length + sp.length) * Try.prog.bytesOf 5) (by rw [he]; simp [DataW.weights, Try.underlying33])
        refine hw _ ?_
        rw [hxx]
        simp only [DataW.weights, Try.underlying38]
        exact hm)
      rw [hb] at hr
      exact ⟨⟨z0, z1, z2, A, n, c, zs⟩, rfl, hI, hA, by unfold reachBytes at hr; show n ≤ _; omega, fun z hz2 => bounds_u8 (hz z hz2)⟩

set_option maxRecDepth 100000 in
theorem loads_in {H : Type} {enc : TypeId × Value → H} {W : World} {A : Option Addr} {n c : Nat} {d : DataW H} {p : List MemPlace}
    (h : DataW.Trod enc Try.prog W 0 (fun _ => true) true 22 (.slice A n c) d p) (hw : ∀ x ∈ d.weights Try.prog 22, x ≤ reachBytes) : ∃ D, LR W A n D := by
  obtain ⟨fuel, hf⟩ := h
  rcases Go.Deep.open_slice Try.underlying22 hf with ⟨hcs, _⟩ | ⟨a, len, cap, m, q, D, Pl, hcs, _, hl, _, hm, hd, hx⟩
  · simp [Value.cells] at hcs
    obtain ⟨rfl, rfl, rfl⟩ := hcs
    exact ⟨fun _ => default, fun h => absurd h (Nat.lt_irrefl 0), fun j h => absurd h (Nat.not_lt_zero j)⟩
  · simp [Value.cells] at hcs
    obtain ⟨rfl, rfl, rfl⟩ := hcs
    have ce : Try.prog.cellsOf 38 = 4 := by kernel_rfl
    have hd1 := (Prod.mk.inj hd).1
    have each : ∀ j, j < n → ∃ D : Ld, (∀ i, i < 4 → W.cell? (a.add (j * 4 + i)) = [Value.int .i64 D.fr, .int .i64 D.to, .int .i64 D.dl, .slice D.A D.n D.c][i]?) ∧ Ints W .u8 D.A D.n D.zs ∧ (D.A = none → D.n = 0 ∧ D.c = 0) ∧ D.n ≤ 140737488351232 ∧ Byts8 D.zs := by
      intro j hj
      obtain ⟨cs, h1, h2⟩ := hx j (by rw [hm]; simp; omega)
      rw [ce] at h1
      obtain ⟨_, hlen, hcell⟩ := World.cells?_some h1
      obtain ⟨D', e, r⟩ := load_at hlen h2 (fun y hy => hw y (by
        rw [hd1]
        simp only [DataW.weights, Try.underlying22, List.mem_cons, List.mem_append]
        exact .inr (.inl (weights_in_all (List.mem_map.2 ⟨j, List.mem_range.2 hj, rfl⟩) y hy))))
      refine ⟨D', fun i hi => ?_, r⟩
      have := hcell i hi
      rw [Go.Deep.add_add] at this
      rw [this, e]
    obtain ⟨M, hM⟩ := Go.Deep.choose_lt each
    refine ⟨M, fun hn => ?_, fun j hj => (hM j hj).2⟩
    have h0 := (hM 0 hn).1 0 (by omega)
    have hsp : a.spot = none := by
      have := World.cell?_spot h0
      simpa [Addr.add] using this
    obtain ⟨b, off, sp⟩ := a
    simp only at hsp
    subst hsp
    have ea : ∀ k, (⟨b, off, none⟩ : Addr).add k = ⟨b, off + k, none⟩ := fun k => by unfold Addr.add; split <;> simp_all
    refine ⟨b, off, rfl, ?_, fun j hj => ?_⟩
    · have := World.block_lt_of_cell? _ _ h0
      simpa [Addr.add] using this
    · have h1 := (hM j hj).1
      have g0 := h1 0 (by omega)
      have g1 := h1 1 (by omega)
      have g2 := h1 2 (by omega)
      have g3 := h1 3 (by omega)
      rw [ea] at g0 g1 g2 g3
      simp only [← Nat.add_assoc] at g0 g1 g2 g3
      exact ⟨g0, g1, g2, g3⟩
end Go.Proofs.Ytdlcjieaoalhoaa.Bs
