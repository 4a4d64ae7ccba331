/- Merged: ClRun ClDeliver ClLie ClPost ClNode ClPh ClSense. -/
import Derived.BigGuard
import Derived.Deep.QuietTactic
import Derived.Test.YtofeoeknmlkjgaaZ25
import Derived.Test.YtofeoeknmlkjgaaZ36
import Derived.Test.YtofeoeknmlkjgaaZ38
import Derived.Test.YtofeoeknmlkjgaaZ39
import Derived.Test.YtofeoeknmlkjgaaZ40
set_option linter.unusedVariables false
set_option linter.unusedSimpArgs false
section
/- A frame at work: the block of the run; the boxes. -/
set_option linter.unusedVariables false
namespace Go.Proofs.Ytofeoeknmlkjgaa.Nk
open Go.RowKit Go.Proofs.Ytofeoeknmlkjgaa Mb Fi Sm

structure Cl where
  fr : Int
  N : Nat → Nd
  va : Nat → Value
def Cl.c (x : Cl) (k : Nat) : Value := if k < 1 then .int .i64 x.fr else (x.N ((k - 1) / 74)).c (x.va ((k - 1) / 74)) ((k - 1) % 74)
def CA (x : Cl) : Array Value := AN 297 x.c
structure InD where
  bad : Int
  rd : Nat → Int
  lv : Value
def InD.c (y : InD) (k : Nat) : Value := if k < 12 then .int .i64 (y.rd k) else if k < 13 then .int .i64 y.bad else y.lv
def IA (y : InD) : Array Value := AN 14 y.c
def runc (x : Cl) (y : InD) (bx : Nat → Value) (k : Nat) : Value := if k < 297 then x.c k else if k < 311 then y.c (k - 297) else bx (k - 311)
def RA (x : Cl) (y : InD) (bx : Nat → Value) : Array Value := AN 315 (runc x y bx)
def RunB (W : World) (g : Nat) (x : Cl) (y : InD) (bx : Nat → Value) : Prop := Blk W g 115 (RA x y bx)
theorem CA_size (x : Cl) : (CA x).size = 297 := AN_size _ _
theorem IA_size (y : InD) : (IA y).size = 14 := AN_size _ _
theorem Cl.c_node (x : Cl) {i k : Nat} (hi : i < 4) (hk : k < 74) : x.c (1 + i * 74 + k) = (x.N i).c (x.va i) k := by
  unfold Cl.c
  rw [if_neg (by omega), show (1 + i * 74 + k - 1) / 74 = i by omega, show (1 + i * 74 + k - 1) % 74 = k by omega]
section
variable {W W' : World} {g : Nat} {x : Cl} {y : InD} {bx : Nat → Value}
theorem RunB.at_ (h : RunB W g x y bx) {k : Nat} (hk : k < 315) : W.cell? ⟨g, k, none⟩ = some (runc x y bx k) := by
  have := Blk.cell h k
  rw [this]; unfold RA; rw [AN_get hk]
theorem RunB.next (h : RunB W g x y bx) (hb : Below W.heap.size W W') : RunB W' g x y bx := Blk.next h hb
theorem RunB.same {S : Nat → Prop} (h : RunB W g x y bx) (hs : Same W S W') (hg : ¬ S g) : RunB W' g x y bx := hs.blk h hg
theorem RunB.bad (h : RunB W g x y bx) : W.cell? ⟨g, 309, none⟩ = some (.int .i64 y.bad) := h.at_ (by omega)
theorem RunB.lv (h : RunB W g x y bx) : W.cell? ⟨g, 310, none⟩ = some y.lv := h.at_ (by omega)
theorem RunB.box (h : RunB W g x y bx) {i : Nat} (hi : i < 4) : W.cell? ⟨g, 311 + i, none⟩ = some (bx i) := by
  rw [h.at_ (by omega)]; unfold runc; rw [if_neg (by omega), if_neg (by omega), show 311 + i - 311 = i by omega]
theorem RunB.fr (h : RunB W g x y bx) : W.cell? ⟨g, 0, none⟩ = some (.int .i64 x.fr) := h.at_ (by omega)
theorem RunB.setBox (h : RunB W g x y bx) {i : Nat} (hi : i < 4) (u : Value) : RunB (W.setCell ⟨g, 311 + i, none⟩ u) g x y (upd bx i u) := by
  have := Blk.set_ h (311 + i) u
  unfold RA at this
  rw [AN_set] at this
  unfold RunB RA
  rw [AN_congr (g := fun k => if k = 311 + i then u else runc x y bx k)]
  · exact this
  · intro k hk
    by_cases e : k = 311 + i
    · subst e
      rw [if_pos rfl]
      unfold runc
      rw [if_neg (by omega), if_neg (by omega), show 311 + i - 311 = i by omega, upd_same]
    · rw [if_neg e]
      unfold runc
      by_cases a : k < 297
      · rw [if_pos a, if_pos a]
      · rw [if_neg a, if_neg a]
        by_cases b : k < 311
        · rw [if_pos b, if_pos b]
        · rw [if_neg b, if_neg b, upd_far _ _ (by omega)]
end

theorem own_own_ne {w : World} {base size n base' size' n' : Nat} {e e' : TypeId} {v v' : Value} {xs xs' : List Value} (h : w.ownsRow base e size v n xs) (h' : w.ownsRow base' e' size' v' n' xs') (hne : e ≠ e') {q : Nat} (hq : v.ownBlock = some q) : v'.ownBlock ≠ some q := by
  rcases h.2 with ⟨rfl, _⟩ | ⟨g, cap, cur, rfl, _, hh, _⟩
  · cases hq
  · rcases h'.2 with ⟨rfl, _⟩ | ⟨g', cap', cur', rfl, _, hh', _⟩
    · intro e; cases e
    · intro hq'
      have e1 : g = q := by simpa [Value.ownBlock] using hq
      have e2 : g' = q := by simpa [Value.ownBlock] using hq'
      subst e1; subst e2
      rw [hh] at hh'
      injection hh' with hh'
      injection hh' with _ h2
      exact hne h2
theorem Mg.Reads.lt {w : World} {x : Mg} (h : x.Reads w) (hn : 0 < x.n) {ad : Addr} (ha : x.A = some ad) : ad.block < w.heap.size := by
  obtain ⟨b, off, e, hlt, _⟩ := h.1.2 hn
  rw [ha] at e
  cases e
  exact hlt
def Bx (w : World) (base g : Nat) (v : Nat → Value) (Ms : Nat → List Mg) : Prop :=
  (∀ i, i < 4 → w.ownsRow base 64 4 (v i) (Ms i).length (flatM (Ms i)) ∧ ∀ x ∈ Ms i, x.Reads w) ∧
  (∀ i j, i < 4 → j < 4 → i ≠ j → ∀ q, (v i).ownBlock = some q → (v j).ownBlock ≠ some q) ∧
  (∀ i, i < 4 → ∀ x ∈ Ms i, 0 < x.n → ∀ ad, x.A = some ad → ad.block ≠ g ∧ ∀ j, j < 4 → (v j).ownBlock ≠ some ad.block)
section
variable {w w' : World} {base g : Nat} {v : Nat → Value} {Ms : Nat → List Mg}
theorem Bx.start (w : World) (base g : Nat) : Bx w base g (fun _ => .slice none 0 0) (fun _ => []) :=
  ⟨fun i hi => ⟨World.ownsRow_nil _ _ _ _, fun x hx => by cases hx⟩, fun i j _ _ _ q hq => (by cases hq), fun i hi x hx => by cases hx⟩
theorem Bx.lt (h : Bx w base g v Ms) {i q : Nat} (hi : i < 4) (hq : (v i).ownBlock = some q) : q < w.heap.size ∧ base ≤ q := by
  have := (h.1 i hi).1.lt q hq
  exact ⟨this.2, this.1⟩
theorem Bx.same {S : Nat → Prop} (h : Bx w base g v Ms) (hs : Same w S w') (h1 : ∀ i, i < 4 → ∀ q, (v i).ownBlock = some q → ¬ S q) (h2 : ∀ i, i < 4 → ∀ x ∈ Ms i, 0 < x.n → ∀ ad, x.A = some ad → ¬ S ad.block) : Bx w' base g v Ms :=
  ⟨fun i hi => ⟨hs.own (h.1 i hi).1 (h1 i hi), fun x hx => ⟨hs.ints ((h.1 i hi).2 x hx).1 (fun ad ha hn => h2 i hi x hx hn ad ha), ((h.1 i hi).2 x hx).2⟩⟩, h.2.1, h.2.2⟩
theorem Bx.next (h : Bx w base g v Ms) (hb : Below w.heap.size w w') : Bx w' base g v Ms :=
  h.same (S := fun _ => False) ((Same.refl w _).next hb) (fun _ _ _ _ hf => hf) (fun _ _ _ _ _ _ _ hf => hf)
theorem Bx.run (h : Bx w base g v Ms) {t : TypeId} {cs : Array Value} (hq : Blk w g t cs) (ht : 64 ≠ t) (hg : w.grownBy w' (some g)) : Bx w' base g v Ms :=
  h.same (S := fun k => k = g) ((Same.refl w _).grown hg (fun k e _ => (Option.some.inj e).symm)) (fun i hi q hq' e => own_blk_ne (h.1 i hi).1 hq ht (by rw [hq', e])) (fun i hi x hx hn ad ha e => (h.2.2 i hi x hx hn ad ha).1 e)
theorem Bx.push {tt : Nat} {v' : Value} {m : Mg} (h : Bx w base g v Ms) (ht : tt < 4) (hown : w'.ownsRow base 64 4 v' ((Ms tt).length + 1) (flatM (Ms tt) ++ m.cells)) (hg : w.grownBy w' (v tt).ownBlock)
    (hv : ∀ q, v'.ownBlock = some q → (v tt).ownBlock = some q ∨ q = w.heap.size) (hr : m.Reads w) (hs : 0 < m.n → ∀ ad, m.A = some ad → ad.block ≠ g ∧ ∀ j, j < 4 → (v j).ownBlock ≠ some ad.block) :
    Bx w' base g (upd v tt v') (upd Ms tt (Ms tt ++ [m])) := by
  have hsm : Same w (fun k => (v tt).ownBlock = some k) w' := (Same.refl w _).grown hg (fun k e _ => e)
  have hrd : ∀ x : Mg, x.Reads w → (0 < x.n → ∀ ad, x.A = some ad → (v tt).ownBlock ≠ some ad.block) → x.Reads w' := fun x hx hn => ⟨hsm.ints hx.1 (fun ad ha h0 => hn h0 ad ha), hx.2⟩
  have hown' : w'.ownsRow base 64 4 v' (Ms tt ++ [m]).length (flatM (Ms tt ++ [m])) := by
    rw [List.length_append, flatM_app]
    simpa [flatM] using hown
  refine ⟨fun i hi => ?_, fun i j hi hj hne q hq => ?_, fun i hi x hx hn ad ha => ?_⟩
  · by_cases e : i = tt
    · subst e
      rw [upd_same, upd_same]
      refine ⟨hown', fun x hx => ?_⟩
      rcases List.mem_append.1 hx with hx | hx
      · exact hrd x ((h.1 i hi).2 x hx) (fun hn ad ha => (h.2.2 i hi x hx hn ad ha).2 i hi)
      · rw [List.mem_singleton] at hx
        subst hx
        exact hrd x hr (fun hn ad ha => (hs hn ad ha).2 i hi)
    · rw [upd_far _ _ e, upd_far _ _ e]
      refine ⟨hsm.own (h.1 i hi).1 (fun q hq hq2 => h.2.1 i tt hi ht e q hq hq2), fun x hx => hrd x ((h.1 i hi).2 x hx) (fun hn ad ha => (h.2.2 i hi x hx hn ad ha).2 tt ht)⟩
  · by_cases e : i = tt
    · subst e
      rw [upd_same] at hq
      rw [upd_far _ _ (fun h => hne h.symm)]
      intro hj2
      rcases hv q hq with h1 | h1
      · exact h.2.1 j i hj hi (fun h => hne h.symm) q hj2 h1
      · have := (h.lt hj hj2).1; omega
    · rw [upd_far _ _ e] at hq
      by_cases e2 : j = tt
      · subst e2
        rw [upd_same]
        intro hj2
        rcases hv q hj2 with h1 | h1
        · exact h.2.1 i j hi hj hne q hq h1
        · have := (h.lt hi hq).1; omega
      · rw [upd_far _ _ e2]
        exact h.2.1 i j hi hj hne q hq
  · have key : x.Reads w ∧ ad.block ≠ g ∧ ∀ j, j < 4 → (v j).ownBlock ≠ some ad.block := by
      by_cases e : i = tt
      · subst e
        rw [upd_same] at hx
        rcases List.mem_append.1 hx with hx | hx
        · exact ⟨(h.1 i hi).2 x hx, h.2.2 i hi x hx hn ad ha⟩
        · rw [List.mem_singleton] at hx
          subst hx
          exact ⟨hr, hs hn ad ha⟩
      · rw [upd_far _ _ e] at hx
        exact ⟨(h.1 i hi).2 x hx, h.2.2 i hi x hx hn ad ha⟩
    refine ⟨key.2.1, fun j hj => ?_⟩
    by_cases e : j = tt
    · subst e
      rw [upd_same]
      intro hq
      rcases hv _ hq with h1 | h1
      · exact key.2.2 j hj h1
      · have := key.1.lt hn ha; omega
    · rw [upd_far _ _ e]
      exact key.2.2 j hj
theorem Bx.mr (h : Bx w base g v Ms) {i : Nat} (hi : i < 4) : ∃ A c, v i = .slice A (Ms i).length c ∧ MR w A (Ms i).length c (Ms i) := by
  obtain ⟨A, c, e, hv⟩ := VR.mk_own (h.1 i hi).1
  exact ⟨A, c, e, rfl, hv, (h.1 i hi).2⟩
end

/-! what bytes tell -/
open Classical in
noncomputable def msgOf (zs : List Int) : Option Pm := if h : ∃ m : Pm, Wr.IsMsg zs m.k m.f m.r m.vs then some h.choose else none
theorem msgOf_some {zs : List Int} {k f r : Int} {vs : List Int} (h : Wr.IsMsg zs k f r vs) : msgOf zs = some ⟨k, f, r, vs⟩ := by
  unfold msgOf
  have hx : ∃ m : Pm, Wr.IsMsg zs m.k m.f m.r m.vs := ⟨⟨k, f, r, vs⟩, h⟩
  rw [dif_pos hx]
  obtain ⟨a, b, c, d⟩ := Wr.IsMsg.same h hx.choose_spec
  congr 1
  cases hc : hx.choose with
  | mk k' f' r' vs' =>
    rw [hc] at a b c d
    simp only at a b c d
    rw [a, b, c, d]
theorem msgOf_none {zs : List Int} (h : ∀ k f r vs, ¬ Wr.IsMsg zs k f r vs) : msgOf zs = none := by
  unfold msgOf
  rw [dif_neg]
  rintro ⟨m, hm⟩
  exact h _ _ _ _ hm
noncomputable def dlv (from_ : Int) (zs : List Int) : List Pm := match msgOf zs with | some p => if p.f = from_ then [p] else [] | none => []
/-! what a call that fills boxes leaves alone -/
def SB (g : Nat) (bx : Nat → Value) (k : Nat) : Prop := k = g ∨ ∃ j, j < 4 ∧ (bx j).ownBlock = some k
def Mv (w : World) (g : Nat) (bx : Nat → Value) (w' : World) (bx' : Nat → Value) : Prop := Same w (SB g bx) w' ∧ ∀ j q, j < 4 → (bx' j).ownBlock = some q → (bx j).ownBlock = some q ∨ w.heap.size ≤ q
section
variable {w w' w'' : World} {g : Nat} {bx bx' bx'' : Nat → Value}
theorem Same.trans_of {S S' : Nat → Prop} (h : Same w S w') (h' : Same w' S' w'') (hs : ∀ k, k < w.heap.size → S' k → S k) : Same w S w'' :=
  ⟨h'.1.trans h.1, h'.2.1.trans h.2.1, h'.2.2.1.trans h.2.2.1, Nat.le_trans h.2.2.2.1 h'.2.2.2.1, fun k hk hn => (h'.2.2.2.2 k (Nat.lt_of_lt_of_le hk h.2.2.2.1) (fun hk' => hn (hs k hk hk'))).trans (h.2.2.2.2 k hk hn)⟩
theorem Mv.refl (w : World) (g : Nat) (bx : Nat → Value) : Mv w g bx w bx := ⟨Same.refl w _, fun j q _ h => .inl h⟩
theorem Mv.below (hb : Below w.heap.size w w') : Mv w g bx w' bx := ⟨(Same.refl w _).next hb, fun j q _ h => .inl h⟩
theorem Mv.trans (h : Mv w g bx w' bx') (h' : Mv w' g bx' w'' bx'') : Mv w g bx w'' bx'' := by
  refine ⟨Same.trans_of h.1 h'.1 fun k hk hs => ?_, fun j q hj hq => ?_⟩
  · rcases hs with rfl | ⟨j, hj, hq⟩
    · exact .inl rfl
    · rcases h.2 j k hj hq with h1 | h1
      · exact .inr ⟨j, hj, h1⟩
      · omega
  · rcases h'.2 j q hj hq with h1 | h1
    · exact h.2 j q hj h1
    · exact .inr (Nat.le_trans h.1.2.2.2.1 h1)
theorem Mv.grown {w0 : World} (h : Mv w g bx w' bx') (hg : w0.grownBy w (some g)) (hb : ∀ j q, j < 4 → (bx j).ownBlock = some q → w0.heap.size ≤ q) : w0.grownBy w' (some g) :=
  ⟨h.1.1.trans hg.os, h.1.2.1.trans hg.tape, h.1.2.2.1.trans hg.output, Nat.le_trans hg.size h.1.2.2.2.1, fun k hk hne => (h.1.2.2.2.2 k (Nat.lt_of_lt_of_le hk hg.size) (fun hs => by
    rcases hs with rfl | ⟨j, hj, hq⟩
    · exact hne rfl
    · have := hb j k hj hq; omega)).trans (hg.block k hk hne)⟩
theorem Mv.own {base base' size n : Nat} {e : TypeId} {v : Value} {xs : List Value} {Ms : Nat → List Mg} (h : Mv w g bx w' bx') (hB : Bx w base g bx Ms) (ho : w.ownsRow base' e size v n xs) (he : e ≠ 64) {t : TypeId} {cs : Array Value} (hg : Blk w g t cs) (ht : e ≠ t) : w'.ownsRow base' e size v n xs :=
  h.1.own ho fun k hk hs => by
    rcases hs with rfl | ⟨j, hj, hq⟩
    · exact own_blk_ne ho hg ht hk.symm
    · exact own_own_ne ho (hB.1 j hj).1 he hk hq
end
end Go.Proofs.Ytofeoeknmlkjgaa.Nk
end
section
/- (*run).deliver: bytes that are a message of the sender's go into a box. -/
set_option linter.unusedVariables false
namespace Go.Proofs.Ytofeoeknmlkjgaa.Nk
open Go.RowKit Go.Proofs.Ytofeoeknmlkjgaa Mb Fi Sm

def DlvPost (from_ : Int) (tt : Nat) (zs : List Int) (g base : Nat) (x : Cl) (y : InD) (bx : Nat → Value) (Ms : Nat → List Mg) (w : World) (e : Ending) (w' : World) : Prop :=
  e = .returned (.tuple #[]) ∧ ∃ bx' Ms', RunB w' g x y bx' ∧ Bx w' base g bx' Ms' ∧ (∀ i, i ≠ tt → Ms' i = Ms i) ∧ (Ms' tt).map Mg.pm = (Ms tt).map Mg.pm ++ dlv from_ zs ∧ Mv w g bx w' bx'
theorem infoMsg : (Try.prog.info? 64).map (fun i => (i.zero, i.size, i.bytes)) = some (some (.agg #[.int .i64 0, .int .i64 0, .int .i64 0, .slice none 0 0]), 4, 48) := by kernel_rfl
theorem infoMsg4 : (Try.prog.info? 64).map (·.size) = some 4 := by kernel_rfl
section
variable {from_ : Int} {tt : Nat} {zs : List Int} {g base : Nat} {x : Cl} {y : InD} {bx : Nat → Value} {Ms : Nat → List Mg} {w w' : World}
theorem DlvPost.keep (hR : RunB w g x y bx) (hB : Bx w base g bx Ms) (hd : dlv from_ zs = []) (hb : Below w.heap.size w w') : DlvPost from_ tt zs g base x y bx Ms w (.returned (.tuple #[])) w' :=
  ⟨rfl, bx, Ms, hR.next hb, hB.next hb, fun _ _ => rfl, by rw [hd, List.append_nil], Mv.below hb⟩
end

set_option maxRecDepth 100000 in
set_option maxHeartbeats 4000000 in
theorem deliver_no (from_ : Int) (tt : Nat) (A : Option Addr) (n c : Nat) (zs : List Int) (g base : Nat) (x : Cl) (y : InD) (bx : Nat → Value) (Ms : Nat → List Mg) (w : World) (hR : RunB w g x y bx) (hB : Bx w base g bx Ms)
    (hI : Ints w .u8 A n zs) (hnc : n ≤ c) (hn : n ≤ 9223372036854775807) (hz : Wr.Byts zs) (hm : ∀ k f r vs, ¬ Wr.IsMsg zs k f r vs) :
    Calls Try.prog 75 #[.pointer (some ⟨g, 0, none⟩), .int .i64 from_, .int .i64 tt, .slice A n c] w (DlvPost from_ tt zs g base x y bx Ms w) := by
  have hk : ∀ w', Below w.heap.size w w' → DlvPost from_ tt zs g base x y bx Ms w (.returned (.tuple #[])) w' := fun w' hb => DlvPost.keep hR hB (by unfold dlv; rw [msgOf_none hm]) hb
  have HK := Lib.hid hk
  have HD := Lib.hid ((Wr.Decode_any A n c zs w hI hnc hn hz).mono fun e w' hp => Wr.DecPost.bad hp hm)
  clear hk hR hB hI hz hm
  go_enter Try.func75, Try.ntmps75
  go_wp2_with (first
    | (go_at_call 94; go_loud ((with_reducible refine HD.out.mono ?_); rintro e w1 ⟨er, her, rfl, hb1⟩; unfold Wr.zMsg; have q : (er == 0) = false := beq_false_of_ne her; have HB1 := Lib.hid hb1; clear hb1))
    | go_big_skip)
  go_end0
  exact HK.out _ (HB1.out.alloc HB1.out.size _)

theorem Mv.push {w w3 w4 : World} {g ga la ca tt : Nat} {bx : Nat → Value} (hb : Below w.heap.size w w3) (hg : w3.grownBy w4 (bx tt).ownBlock) (ht : tt < 4) (hv : ∀ q, (Value.slice (some ⟨ga, 0, none⟩) la ca).ownBlock = some q → (bx tt).ownBlock = some q ∨ q = w3.heap.size) :
    Mv w g bx w4 (upd bx tt (.slice (some ⟨ga, 0, none⟩) la ca)) := by
  refine ⟨((Same.refl w _).next hb).grown hg (fun k e _ => .inr ⟨tt, ht, e⟩), fun j q hj hq => ?_⟩
  by_cases e : j = tt
  · subst e
    rw [upd_same] at hq
    rcases hv q hq with h1 | h1
    · exact .inl h1
    · exact .inr (by rw [h1]; exact hb.size)
  · rw [upd_far _ _ e] at hq
    exact .inl hq
theorem DlvPost.put {w w4 : World} {zs : List Int} {g base tt : Nat} {x : Cl} {y : InD} {bx : Nat → Value} {Ms : Nat → List Mg} {u : Value} {m : Mg} (hR : RunB w4 g x y bx) (hB : Bx w4 base g (upd bx tt u) (upd Ms tt (Ms tt ++ [m]))) (hm : Mv w g bx w4 (upd bx tt u))
    (ho : msgOf zs = some m.pm) (htt : tt < 4) : DlvPost m.f tt zs g base x y bx Ms w (.returned (.tuple #[])) (w4.setCell ⟨g, 311 + tt, none⟩ u) := by
  have hg : w4.grownBy (w4.setCell ⟨g, 311 + tt, none⟩ u) (some g) := grown_set _ _ _ _
  refine ⟨rfl, _, _, hR.setBox htt u, hB.run hR (by decide) hg, fun i hi => upd_far _ _ hi, ?_, ?_⟩
  · rw [upd_same, List.map_append]
    unfold dlv
    rw [ho]
    simp only
    rw [if_pos (show m.pm.f = m.f from rfl)]
    rfl
  · exact hm.trans ⟨(Same.refl w4 _).grown hg (fun k e _ => .inl (Option.some.inj e).symm), fun j q hj hq => .inl hq⟩
theorem Mg.ok {w0 w1 : World} {k f r : Int} {A' : Option Addr} {c' : Nat} {vs : List Int} (ho : w1.ownsRow w0.heap.size 3 1 (.slice A' vs.length c') vs.length (vs.map (Value.int .i64))) (h24 : vs.length ≤ 24) (hv : ∀ v ∈ vs, Wr.In64 v) : Mg.Reads w1 ⟨k, f, r, A', vs.length, c', vs⟩ :=
  ⟨Bs_ints_own ho, (VR.own ho).2.1, Nat.le_trans h24 (by decide), hv⟩

set_option maxRecDepth 100000 in
set_option maxHeartbeats 4000000 in
theorem deliver_yes (from_ : Int) (tt : Nat) (A : Option Addr) (n c : Nat) (zs : List Int) (k f r : Int) (vs : List Int) (g base : Nat) (x : Cl) (y : InD) (bx : Nat → Value) (Ms : Nat → List Mg) (w : World) (hR : RunB w g x y bx) (hB : Bx w base g bx Ms)
    (hI : Ints w .u8 A n zs) (hnc : n ≤ c) (hn : n ≤ 9223372036854775807) (hz : Wr.Byts zs) (hm : Wr.IsMsg zs k f r vs) (htt : tt < 4) (hbase : base ≤ w.heap.size) (hlen : (Ms tt).length ≤ 100000) :
    Calls Try.prog 75 #[.pointer (some ⟨g, 0, none⟩), .int .i64 from_, .int .i64 tt, .slice A n c] w (DlvPost from_ tt zs g base x y bx Ms w) := by
  have HD := Lib.hid ((Wr.Decode_any A n c zs w hI hnc hn hz).mono fun e w' hp => Wr.DecPost.ok hp hm)
  have HR := Lib.hid hR
  have HB := Lib.hid hB
  have hmo := msgOf_some hm
  have h24 := hm.len.2
  have hv64 := hm.2.1
  have HV := Lib.hid hv64
  have HMO := Lib.hid hmo
  have HI := Lib.hid hI
  clear hR hB hI hz hm hmo hv64
  go_enter Try.func75, Try.ntmps75
  by_cases hf : f = from_
  · subst hf
    have q : (f == f) = true := by simp
    have z1 : (0 : Int) ≤ (tt : Int) := by omega
    have z2 : (tt : Int) < 4 := by omega
    go_upto_region 2 with (first
      | (go_at_call 94; (with_reducible refine HD.out.mono ?_); rintro e w1 ⟨A', c', rfl, ho1, hb1⟩; have HB1 := Lib.hid hb1; have HO1 := Lib.hid ho1; clear hb1 ho1))
    have HR2 := Lib.hid ((HR.out.next HB1.out).next ((Below.refl _ _).alloc (Nat.le_refl _) (.cells #[.int .i64 k, .int .i64 f, .int .i64 r, .slice A' vs.length c'] 64)))
    have HM2 := Lib.hid (Blk.new w1 64 #[.int .i64 k, .int .i64 f, .int .i64 r, .slice A' vs.length c'])
    have HBX2 := Lib.hid ((HB.out.next HB1.out).next ((Below.refl _ _).alloc (Nat.le_refl _) (.cells #[.int .i64 k, .int .i64 f, .int .i64 r, .slice A' vs.length c'] 64)))
    have HRD2 := Lib.hid ((Mg.ok (k := k) (f := f) (r := r) HO1.out h24 HV.out).next ((Below.refl _ _).alloc (Nat.le_refl _) (.cells #[.int .i64 k, .int .i64 f, .int .i64 r, .slice A' vs.length c'] 64)))
    have HB2 := Lib.hid (HB1.out.alloc HB1.out.size (.cells #[.int .i64 k, .int .i64 f, .int .i64 r, .slice A' vs.length c'] 64))
    have hsep : 0 < vs.length → ∀ ad, A' = some ad → ad.block ≠ g ∧ ∀ j, j < 4 → (bx j).ownBlock ≠ some ad.block := fun hn ad e => by
      have h1 := HO1.out.lt ad.block (by rw [e]; rfl)
      have h2 := Blk.lt HR.out
      refine ⟨by omega, fun j hj hq => ?_⟩
      have := (HB.out.lt hj hq).1
      omega
    have hlt : ∀ q, (bx tt).ownBlock = some q → q < w1.heap.size := fun q hq => Nat.lt_of_lt_of_le (HB.out.lt htt hq).1 HB1.out.size
    have HSEP := Lib.hid hsep
    have HLT := Lib.hid hlt
    clear HD HR HB HI HV HO1 hsep hlt
    obtain ⟨q8, hq8⟩ : ∃ q8, q8 = w1.heap.size := ⟨_, rfl⟩
    rw [← hq8] at HM2 HLT ⊢
    have hs8 : q8 < (w1.alloc (.cells #[.int .i64 k, .int .i64 f, .int .i64 r, .slice A' vs.length c'] 64)).heap.size := by rw [hq8]; simp
    generalize w1.alloc (.cells #[.int .i64 k, .int .i64 f, .int .i64 r, .slice A' vs.length c'] 64) = w2 at *
    ·
      obtain ⟨i0, hi, hz0, hz1, hz2⟩ := info_parts infoMsg
      refine wp_region_G 14 (fun w' => RunB w' g x y bx ∧ Blk w' q8 64 #[.int .i64 k, .int .i64 f, .int .i64 r, .slice A' vs.length c']) (by kernel_rfl) (⟨HR2.out.next (Below.refl _ _).drew, HM2.out.next (Below.refl _ _).drew⟩) (fun hS => ?_)
      refine wpG 0 ?_ rfl (by kernel_rfl) (fun _ _ _ h => h) (by rfl) (fun wx => ?_) hS ?_
      rotate_left
      · go_simp; (try with_reducible rfl)
      try simp only [pts]
      refine wpG 1 ?_ rfl (by kernel_rfl) (fun _ _ _ h => h) (by rfl) (fun wx => ?_) hS ?_
      rotate_left
      · go_simp; (try with_reducible rfl)
      try simp only [pts]
      refine wpG 2 ?_ rfl (by kernel_rfl) (fun _ _ _ h => h) (by rfl) (fun wx => ?_) hS ?_
      rotate_left
      · go_simp; (try with_reducible rfl)
      try simp only [pts]
      refine wpG 3 ?_ rfl (by kernel_rfl) (fun _ _ _ h => h) (by rfl) (fun wx => ?_) hS ?_
      rotate_left
      · go_simp; (try with_reducible rfl)
      try simp only [pts]
      refine wpG 4 ?_ rfl (by kernel_rfl) (fun _ _ _ h => h) (by rfl) (fun wx => ?_) hS ?_
      rotate_left
      · go_simp; (try with_reducible rfl)
      try simp only [pts]
      refine wpG 5 ?_ rfl (by kernel_rfl) (fun _ _ _ h => h) (by rfl) (fun wx => ?_) hS ?_
      rotate_left
      · go_simp; (try with_reducible rfl)
      try simp only [pts]
      refine wpG 6 ?_ rfl (by kernel_rfl) (fun _ _ _ h => h) (by rfl) (fun wx => ?_) hS ?_
      rotate_left
      · go_simp; (try with_reducible rfl)
      try simp only [pts]
      refine wpT 7 ?_ rfl (by kernel_rfl) (fun _ _ _ h => h) (Or.inl ⟨by rfl, fun wx hSw => ?_⟩) hS ?_
      rotate_left
      · have hq := hSw.1.box htt; (try dsimp only at hSw); go_simp; (try with_reducible rfl)
      try simp only [pts]
      refine wpT 8 (.agg #[.int .i64 k, .int .i64 f, .int .i64 r, .slice A' vs.length c']) rfl (by kernel_rfl) (fun _ _ _ h => h) (Or.inl ⟨by rfl, fun wx hSw => exec_load_row 64 (.tmp 8) rfl q8 rfl _ _ _ hSw.2 Try.underlying64 rfl infoMsg4⟩) hS ?_
      try simp only [pts]
      refine wpG 11 ?_ rfl (by kernel_rfl) (fun _ _ _ h => h) (by rfl) (fun wx => ?_) hS ?_
      rotate_left
      · go_simp; (try with_reducible rfl)
      try simp only [pts]
      refine wpG 12 ?_ rfl (by kernel_rfl) (fun _ _ _ h => h) (by rfl) (fun wx => ?_) hS ?_
      rotate_left
      · go_simp; (try with_reducible rfl)
      try simp only [pts]
      refine wpAnyG_one (i := 9) rfl (by kernel_rfl) (fun K hK => ?_)
      go_simp
      have hb3 : Below w2.heap.size w2 (w2.drew.alloc (.cells #[.int .i64 k, .int .i64 f, .int .i64 r, .slice A' vs.length c'] 64)) := (Below.refl w2.heap.size w2).drew.alloc (Nat.le_refl _) _
      clear hS
      have hS : RunB _ g x y bx ∧ Blk _ q8 64 #[.int .i64 k, .int .i64 f, .int .i64 r, .slice A' vs.length c'] := ⟨HR2.out.next hb3, HM2.out.next hb3⟩
      refine hK.out _ _ hS ?_
      clear hK K
      try simp only [pts]
      have HBX3 := Lib.hid (HBX2.out.next hb3)
      have HRD3 := Lib.hid (HRD2.out.next hb3)
      have HB3 := Lib.hid (HB2.out.trans (hb3.mono HB2.out.size))
      have hsz : base ≤ (w2.drew.alloc (.cells #[.int .i64 k, .int .i64 f, .int .i64 r, .slice A' vs.length c'] 64)).heap.size := by have := HB3.out.size; omega
      refine wpAnyG_one (i := 10) rfl (by kernel_rfl) (fun K hK => ?_)
      rw [if_pos (by rfl)]
      refine wp_append_lies _ _ _ 62 rfl base 64 i0 _ 4 48 Try.underlying62 hi hz0 hz1 hz2 rfl (by decide) (bx tt) (Ms tt).length (flatM (Ms tt)) rfl (HBX3.out.1 tt htt).1 ⟨w2.heap.size, 0, none⟩ 1 1 [.int .i64 k, .int .i64 f, .int .i64 r, .slice A' vs.length c'] rfl rfl (World.news_of_block (Blk.new w2 64 #[.int .i64 k, .int .i64 f, .int .i64 r, .slice A' vs.length c'])) (by simp [Value.oneCell']) (by decide) (by unfold maxLen; omega) (by omega) hsz _ rfl (fun ga ca w4 ho4 hg4 hv4 hlt4 => ?_)
      have hgne : some g ≠ (bx tt).ownBlock := own_blk_ne (HBX3.out.1 tt htt).1 hS.1 (by decide)
      have hqne : some q8 ≠ (bx tt).ownBlock := fun e => by have := HLT.out q8 e.symm; omega
      have hS4 : RunB w4 g x y bx ∧ Blk w4 q8 64 #[.int .i64 k, .int .i64 f, .int .i64 r, .slice A' vs.length c'] := ⟨Blk.grown hS.1 hg4 hgne, hS.2.grown hg4 hqne⟩
      clear hS
      have hS := hS4
      clear hS4
      refine hK.out _ _ hS ?_
      clear hK K
      try simp only [pts]
      have k1 := hS.1.box htt
      have k2 := Blk.frozen hS.1 (311 + tt)
      have HR4 := Lib.hid hS.1
      have HBX4 := Lib.hid (Bx.push (m := ⟨k, f, r, A', vs.length, c', vs⟩) HBX3.out htt ho4 hg4 (fun q hq => by cases hq; exact hv4) HRD3.out (fun hn ad ha => HSEP.out hn ad ha))
      have HMV4 := Lib.hid (show Mv w g bx w4 (upd bx tt (.slice (some ⟨ga, 0, none⟩) ((Ms tt).length + 1) ca)) from Mv.push HB3.out hg4 htt (fun q hq => by cases hq; exact hv4))
      clear ho4 hg4 hv4 hgne hqne
      refine wpG 13 ?_ rfl (by kernel_rfl) (fun _ _ _ h => h) (by rfl) (fun wx => ?_) hS ?_
      rotate_left
      · go_simp; (try with_reducible rfl)
      try simp only [pts]
      refine wpAnyG_last rfl (by kernel_rfl) (by kernel_rfl) (by kernel_rfl) (fun K hK => ?_)
      go_simp
      refine hK.out _ _ ?_
      clear hK K
      try simp only [pts]
      go_end0
      exact DlvPost.put HR4.out HBX4.out HMV4.out HMO.out htt
      --DLVEND

  · have q : (f == from_) = false := beq_false_of_ne hf
    go_wp2_with (first
      | (go_at_call 94; (with_reducible refine HD.out.mono ?_); rintro e w1 ⟨A', c', rfl, ho1, hb1⟩; have HB1 := Lib.hid hb1; clear hb1 ho1)
      | go_big_skip)
    go_end0
    exact DlvPost.keep HR.out HB.out (by unfold dlv; rw [HMO.out]; exact if_neg hf) (HB1.out.alloc HB1.out.size _)

theorem deliver_any (from_ : Int) (tt : Nat) (A : Option Addr) (n c : Nat) (zs : List Int) (g base : Nat) (x : Cl) (y : InD) (bx : Nat → Value) (Ms : Nat → List Mg) (w : World) (hR : RunB w g x y bx) (hB : Bx w base g bx Ms)
    (hI : Ints w .u8 A n zs) (hnc : n ≤ c) (hn : n ≤ 9223372036854775807) (hz : Wr.Byts zs) (htt : tt < 4) (hbase : base ≤ w.heap.size) (hlen : (Ms tt).length ≤ 100000) :
    Calls Try.prog 75 #[.pointer (some ⟨g, 0, none⟩), .int .i64 from_, .int .i64 tt, .slice A n c] w (DlvPost from_ tt zs g base x y bx Ms w) := by
  by_cases h : ∃ k f r vs, Wr.IsMsg zs k f r vs
  · obtain ⟨k, f, r, vs, hm⟩ := h
    exact deliver_yes from_ tt A n c zs k f r vs g base x y bx Ms w hR hB hI hnc hn hz hm htt hbase hlen
  · exact deliver_no from_ tt A n c zs g base x y bx Ms w hR hB hI hnc hn hz (fun k f r vs hm => h ⟨k, f, r, vs, hm⟩)
end Go.Proofs.Ytofeoeknmlkjgaa.Nk
end
section
/- (*run).lie: what the faulty node sends in a phase. -/
set_option linter.unusedVariables false
namespace Go.Proofs.Ytofeoeknmlkjgaa.Nk
open Go.RowKit Go.Proofs.Ytofeoeknmlkjgaa Mb Fi Sm Crc

structure Li where
  ph : Int
  tt : Int
  A : Option Addr
  n : Nat
  c : Nat
  zs : List Int
def Li.cells (l : Li) : List Value := [.int .i64 l.ph, .int .i64 l.tt, .slice l.A l.n l.c]
def flatLi : List Li → List Value
  | [] => []
  | p :: L => p.cells ++ flatLi L
theorem flatLi_get : ∀ (L : List Li) (i : Nat) (p : Li) (k : Nat), L[i]? = some p → k < 3 → (flatLi L)[i * 3 + k]? = p.cells[k]?
  | [], i, p, k, h, hk => by simp at h
  | q :: L, 0, p, k, h, hk => by
    simp at h; subst h
    rw [flatLi, Nat.zero_mul, Nat.zero_add, List.getElem?_append_left (by simp [Li.cells]; omega)]
  | q :: L, i + 1, p, k, h, hk => by
    rw [flatLi, List.getElem?_append_right (by simp [Li.cells]; omega), show (i + 1) * 3 + k - q.cells.length = i * 3 + k by simp [Li.cells]; omega]
    exact flatLi_get L i p k (by simpa using h) hk
def Li.Reads (w : World) (l : Li) : Prop := Ints w .u8 l.A l.n l.zs ∧ l.n ≤ l.c ∧ l.n ≤ 9223372036854775807 ∧ Wr.Byts l.zs
def LiR (w : World) (A : Option Addr) (m c : Nat) (L : List Li) : Prop := L.length = m ∧ VR w 3 A m c (flatLi L) ∧ ∀ x ∈ L, x.Reads w
noncomputable def Li.ly (l : Li) : Ly := ⟨l.ph, l.tt, msgOf l.zs⟩
section
variable {w w' : World} {A : Option Addr} {m c : Nat} {L : List Li}
theorem Li.Reads.next {x : Li} (h : x.Reads w) (hb : Below w.heap.size w w') : x.Reads w' := ⟨h.1.next hb, h.2⟩
theorem LiR.next (h : LiR w A m c L) (hb : Below w.heap.size w w') : LiR w' A m c L := ⟨h.1, h.2.1.next hb, fun x hx => (h.2.2 x hx).next hb⟩
theorem LiR.row {i : Nat} (h : LiR w A m c L) (hi : i < m) : ∃ b off x, A = some ⟨b, off, none⟩ ∧ b < w.heap.size ∧ L[i]? = some x ∧ x.Reads w ∧
    w.cell? ⟨b, off + i * 3, none⟩ = some (.int .i64 x.ph) ∧ w.cell? ⟨b, off + i * 3 + 1, none⟩ = some (.int .i64 x.tt) ∧ w.cell? ⟨b, off + i * 3 + 2, none⟩ = some (.slice x.A x.n x.c) := by
  obtain ⟨b, off, rfl, hlt, hc⟩ := h.2.1.2.2 (by omega)
  have hL : i < L.length := by rw [h.1]; exact hi
  have hp : L[i]? = some L[i] := List.getElem?_eq_getElem hL
  have hm : L[i] ∈ L := List.getElem_mem hL
  have hk := fun k hk => flatLi_get L i L[i] k hp hk
  refine ⟨b, off, L[i], rfl, hlt, hp, h.2.2 _ hm, hc (i * 3) _ (hk 0 (by omega)), ?_, ?_⟩
  · rw [Nat.add_assoc]; exact hc _ _ (hk 1 (by omega))
  · rw [Nat.add_assoc]; exact hc _ _ (hk 2 (by omega))
end
theorem lyM_none {bad : Int} {k : Nat} {l : Li} (h : ¬ (l.ph = (k : Int) ∧ 0 ≤ l.tt ∧ l.tt < 4 ∧ l.tt ≠ bad)) (i : Nat) (hi : i < 4) : lyM bad k i l.ly = none := by
  unfold lyM Li.ly
  rw [if_neg]
  rintro ⟨h1, h2, h3⟩
  simp only at h1 h2
  exact h ⟨h1, by omega, by omega, by omega⟩
theorem lyM_yes {bad : Int} {k t : Nat} {l : Li} (h1 : l.ph = (k : Int)) (h2 : l.tt = (t : Int)) (h3 : l.tt ≠ bad) : (lyM bad k t l.ly).toList = dlv bad l.zs ∧ ∀ i, i ≠ t → lyM bad k i l.ly = none := by
  constructor
  · unfold lyM Li.ly dlv
    simp only
    rw [if_pos ⟨h1, h2, by omega⟩]
    cases msgOf l.zs with
    | none => rfl
    | some p =>
      simp only [Option.filter]
      by_cases e : p.f = bad
      · simp [e]
      · simp [e]
  · intro i hi
    unfold lyM Li.ly
    rw [if_neg]
    rintro ⟨_, h5, _⟩
    simp only at h5
    omega
theorem lieL_snoc (bad : Int) (k i : Nat) (L : List Ly) (l : Ly) : lieL bad k i (L ++ [l]) = lieL bad k i L ++ (lyM bad k i l).toList := by
  unfold lieL
  rw [List.filterMap_append]
  cases h : lyM bad k i l <;> simp [h]
theorem lieL_le (bad : Int) (k i : Nat) (L : List Ly) : (lieL bad k i L).length ≤ L.length := List.length_filterMap_le _ _
def LiePost (k g base : Nat) (x : Cl) (y : InD) (Ls : List Li) (bx : Nat → Value) (Ms : Nat → List Mg) (w : World) (e : Ending) (w' : World) : Prop :=
  e = .returned (.tuple #[]) ∧ ∃ bx' Ms', RunB w' g x y bx' ∧ Bx w' base g bx' Ms' ∧ (∀ i, i < 4 → (Ms' i).map Mg.pm = (Ms i).map Mg.pm ++ lieL y.bad k i (Ls.map Li.ly)) ∧ Mv w g bx w' bx'
def LiRel (k g base : Nat) (x : Cl) (y : InD) (Ls : List Li) (bx : Nat → Value) (Ms : Nat → List Mg) (w : World) (iv : Value) (wr : World) : Prop :=
  ∃ (j : Nat) (bx' : Nat → Value) (Ms' : Nat → List Mg), iv = .int .i64 j ∧ j ≤ Ls.length ∧ RunB wr g x y bx' ∧ Bx wr base g bx' Ms' ∧ (∀ i, i < 4 → (Ms' i).map Mg.pm = (Ms i).map Mg.pm ++ lieL y.bad k i ((Ls.take j).map Li.ly)) ∧ Mv w g bx wr bx'
section
variable {k g base : Nat} {x : Cl} {y : InD} {Ls : List Li} {bx bx' : Nat → Value} {Ms Ms' : Nat → List Mg} {w wr w2 w3 : World} {j : Nat} {l : Li}
theorem LiRel.skip (hj : Ls[j]? = some l) (hR : RunB wr g x y bx') (hB : Bx wr base g bx' Ms') (hM : ∀ i, i < 4 → (Ms' i).map Mg.pm = (Ms i).map Mg.pm ++ lieL y.bad k i ((Ls.take j).map Li.ly)) (hV : Mv w g bx wr bx')
    (hb : Below wr.heap.size wr w2) (hn : ¬ (l.ph = (k : Int) ∧ 0 ≤ l.tt ∧ l.tt < 4 ∧ l.tt ≠ y.bad)) : LiRel k g base x y Ls bx Ms w (.int .i64 ((j : Int) + 1)) w2 := by
  refine ⟨j + 1, bx', Ms', by go_num, (List.getElem?_eq_some_iff.1 hj).1, hR.next hb, hB.next hb, fun i hi => ?_, hV.trans (Mv.below hb)⟩
  rw [hM i hi, List.take_add_one, hj, List.map_append]
  show _ = _ ++ lieL _ _ _ (_ ++ [l.ly])
  rw [lieL_snoc, lyM_none hn i hi]
  simp
theorem LiRel.put {t : Nat} (hj : Ls[j]? = some l) (hM : ∀ i, i < 4 → (Ms' i).map Mg.pm = (Ms i).map Mg.pm ++ lieL y.bad k i ((Ls.take j).map Li.ly)) (hV : Mv w g bx wr bx')
    (hb : Below wr.heap.size wr w2) {e : Ending} (hp : DlvPost y.bad t l.zs g base x y bx' Ms' w2 e w3) (h1 : l.ph = (k : Int)) (h2 : l.tt = (t : Int)) (h3 : l.tt ≠ y.bad) : LiRel k g base x y Ls bx Ms w (.int .i64 ((j : Int) + 1)) w3 := by
  obtain ⟨_, bx'', Ms'', q1, q2, q3, q4, q5⟩ := hp
  refine ⟨j + 1, bx'', Ms'', by go_num, (List.getElem?_eq_some_iff.1 hj).1, q1, q2, fun i hi => ?_, (hV.trans (Mv.below hb)).trans q5⟩
  obtain ⟨r1, r2⟩ := lyM_yes h1 h2 h3
  rw [List.take_add_one, hj, List.map_append]
  show _ = _ ++ lieL _ _ _ (_ ++ [l.ly])
  rw [lieL_snoc]
  by_cases e : i = t
  · subst e
    rw [q4, hM i hi, r1, List.append_assoc]
  · rw [q3 i e, hM i hi, r2 i e]
    simp
end

set_option maxRecDepth 100000 in
set_option maxHeartbeats 4000000 in
theorem lie_any (k : Nat) (A : Option Addr) (m c : Nat) (Ls : List Li) (B g base : Nat) (x : Cl) (y : InD) (bx : Nat → Value) (Ms : Nat → List Mg) (w : World) (hR : RunB w g x y bx) (hB : Bx w base g bx Ms)
    (hlv : y.lv = .slice A m c) (hbad : 0 ≤ y.bad) (hL : ∀ W, Below B w W → LiR W A m c Ls) (hBg : B ≤ g) (hBb : B ≤ base) (hbase : base ≤ w.heap.size) (hm : m ≤ 400) (hlen : ∀ i, i < 4 → (Ms i).length ≤ 9000) :
    Calls Try.prog 64 #[.pointer (some ⟨g, 0, none⟩), .int .i64 k] w (LiePost k g base x y Ls bx Ms w) := by
  have hml : Ls.length = m := (hL w (Below.refl _ _)).1
  subst hml
  have hk0 := hR.lv
  rw [hlv] at hk0
  have HS : Hid (LiRel k g base x y Ls bx Ms w (.int .i64 0) w) := ⟨0, bx, Ms, rfl, Nat.zero_le _, hR, hB, fun i hi => by simp [lieL], Mv.refl _ _ _⟩
  have hbel : ∀ W bx', Mv w g bx W bx' → Below B w W := fun W bx' h => ⟨h.1.1, h.1.2.1, h.1.2.2.1, h.1.2.2.2.1, fun q hq => h.1.2.2.2.2 q (by have := Blk.lt hR; omega) (fun hs => by
    rcases hs with e | ⟨i, hi, e⟩
    · omega
    · have := (hB.lt hi e).2; omega)⟩
  have HL := Lib.hid (fun W bx' (h : Mv w g bx W bx') => hL W (hbel W bx' h))
  have HLEN := Lib.hid hlen
  clear hR hB hL hbel hlen
  go_enter Try.func64, Try.ntmps64
  go_upto_region 1 with fail
  clear hk0
  go_loopw [12] (fun iv wr => LiRel k g base x y Ls bx Ms w iv wr) (fun iv _ => Ls.length - (intOf iv).toNat)
  case atStart => exact HS.out
  case round =>
    clear HS
    obtain ⟨j, bx', Ms', rfl, hj4, hR, hB, hM, hV⟩ := hrel
    by_cases hjm : j < Ls.length
    · obtain ⟨b, off, l, rfl, hlt, hl, hlr, c0, c1, c2⟩ := (HL.out wr bx' hV).row hjm
      have q0 : (j : Int) < (Ls.length : Int) := by omega
      have qq : (0 : Int) ≤ (j : Int) := by omega
      have n0 := fun o => (hR.next ((Below.refl wr.heap.size wr).alloc (Nat.le_refl _) o)).bad
      have hml : ∀ i, i < 4 → (Ms' i).length ≤ 9400 := fun i hi => by
        have h1 : ((Ms' i).map Mg.pm).length = ((Ms i).map Mg.pm ++ lieL y.bad k i ((Ls.take j).map Li.ly)).length := by rw [hM i hi]
        have h2 := lieL_le y.bad k i ((Ls.take j).map Li.ly)
        rw [List.length_append, List.length_map, List.length_map] at h1
        rw [List.length_map, List.length_take] at h2
        have := HLEN.out i hi
        omega
      have HML := Lib.hid hml
      have HR := Lib.hid hR
      have HB := Lib.hid hB
      have HMs := Lib.hid hM
      have HV := Lib.hid hV
      have HLJ := Lib.hid hl
      have HLR := Lib.hid hlr
      have p0 : decide (0 ≤ y.bad) = true := decide_eq_true hbad
      clear hR hB hM hV hl hlr hml
      by_cases h1 : l.ph = (k : Int)
      rotate_left
      · have p1 : (l.ph == (k : Int)) = false := beq_false_of_ne h1
        go_upto_region 3 with fail
        have HB2 := Lib.hid ((Below.refl wr.heap.size wr).alloc (Nat.le_refl _) (.cells #[.int .i64 l.ph, .int .i64 l.tt, .slice l.A l.n l.c] 80))
        go_quiet (fail)
        go_wp2_with fail
        go_roundw
        case rel => exact LiRel.skip HLJ.out HR.out HB.out HMs.out HV.out (HB2.out.trans ((below_drewN _ _ _).mono HB2.out.size)) (fun h => h1 h.1)
        case measure => simp [intOf]; omega
      have p1 : (l.ph == (k : Int)) = true := by simpa using h1
      have H1 := Lib.hid h1
      clear h1
      by_cases h2 : 0 ≤ l.tt
      rotate_left
      · have p2 : decide (0 ≤ l.tt) = false := decide_eq_false h2
        go_upto_region 3 with fail
        have HB2 := Lib.hid ((Below.refl wr.heap.size wr).alloc (Nat.le_refl _) (.cells #[.int .i64 l.ph, .int .i64 l.tt, .slice l.A l.n l.c] 80))
        go_quiet (fail)
        go_wp2_with fail
        go_roundw
        case rel => exact LiRel.skip HLJ.out HR.out HB.out HMs.out HV.out (HB2.out.trans ((below_drewN _ _ _).mono HB2.out.size)) (fun h => h2 h.2.1)
        case measure => simp [intOf]; omega
      have p2 : decide (0 ≤ l.tt) = true := decide_eq_true h2
      by_cases h3 : l.tt < 4
      rotate_left
      · have p3 : decide (l.tt < 4) = false := decide_eq_false h3
        go_upto_region 3 with fail
        have HB2 := Lib.hid ((Below.refl wr.heap.size wr).alloc (Nat.le_refl _) (.cells #[.int .i64 l.ph, .int .i64 l.tt, .slice l.A l.n l.c] 80))
        go_quiet (fail)
        go_wp2_with fail
        go_roundw
        case rel => exact LiRel.skip HLJ.out HR.out HB.out HMs.out HV.out (HB2.out.trans ((below_drewN _ _ _).mono HB2.out.size)) (fun h => h3 h.2.2.1)
        case measure => simp [intOf]; omega
      have p3 : decide (l.tt < 4) = true := decide_eq_true h3
      by_cases h4 : l.tt = y.bad
      · have p4 : (l.tt != y.bad) = false := by simpa using h4
        have HH4 := Lib.hid h4
        clear h4
        go_upto_region 3 with fail
        have HB2 := Lib.hid ((Below.refl wr.heap.size wr).alloc (Nat.le_refl _) (.cells #[.int .i64 l.ph, .int .i64 l.tt, .slice l.A l.n l.c] 80))
        go_quiet (fail)
        go_wp2_with fail
        go_roundw
        case rel => exact LiRel.skip HLJ.out HR.out HB.out HMs.out HV.out (HB2.out.trans ((below_drewN _ _ _).mono HB2.out.size)) (fun h => h.2.2.2 HH4.out)
        case measure => simp [intOf]; omega
      have p4 : (l.tt != y.bad) = true := by simpa using h4
      have H4 := Lib.hid h4
      clear h4
      have HT := Lib.hid (show l.tt = ((l.tt.toNat : Nat) : Int) by omega)
      have HT4 := Lib.hid (show l.tt.toNat < 4 by omega)
      go_upto_region 3 with fail
      have HB2 := Lib.hid ((Below.refl wr.heap.size wr).alloc (Nat.le_refl _) (.cells #[.int .i64 l.ph, .int .i64 l.tt, .slice l.A l.n l.c] 80))
      have HI2 := Lib.hid (Blk.new wr 80 #[.int .i64 l.ph, .int .i64 l.tt, .slice l.A l.n l.c])
      go_quiet (fail)
      go_upto_region 4 with fail
      have KD := Lib.hid (fun W (hb : Below wr.heap.size wr W) => show Calls Try.prog 75 #[.pointer (some ⟨g, 0, none⟩), .int .i64 y.bad, .int .i64 l.tt, .slice l.A l.n l.c] W (DlvPost y.bad l.tt.toNat l.zs g base x y bx' Ms' W) from by
        have h := deliver_any y.bad l.tt.toNat l.A l.n l.c l.zs g base x y bx' Ms' W (HR.out.next hb) (HB.out.next hb) (HLR.out.1.next hb) HLR.out.2.1 HLR.out.2.2.1 HLR.out.2.2.2 HT4.out (Nat.le_trans hbase (Nat.le_trans HV.out.1.2.2.2.1 hb.size)) (by have := HML.out _ HT4.out; omega)
        rw [← HT.out] at h
        exact h)
      generalize hw2 : World.drewN _ _ = w2
      have hb2 : Below wr.heap.size wr w2 := by rw [← hw2]; exact HB2.out.trans ((below_drewN _ _ _).mono HB2.out.size)
      have hi2 : Blk w2 wr.heap.size 80 #[.int .i64 l.ph, .int .i64 l.tt, .slice l.A l.n l.c] := by rw [← hw2]; exact HI2.out.next (below_drewN _ _ _)
      have HB3 := Lib.hid hb2
      have HI3 := Lib.hid hi2
      clear hb2 hi2 hw2
      refine wp_region_G 10 (fun w' => RunB w' g x y bx' ∧ Blk w' wr.heap.size 80 #[.int .i64 l.ph, .int .i64 l.tt, .slice l.A l.n l.c] ∧ Below wr.heap.size wr w') (by kernel_rfl) (⟨(HR.out.next HB3.out).next (Below.refl _ _).drew, HI3.out.next (Below.refl _ _).drew, HB3.out.drew⟩) (fun hS => ?_)
      refine wpG 0 ?_ rfl (by kernel_rfl) (fun _ _ _ h => h) (by rfl) (fun wx => ?_) hS ?_
      rotate_left
      · go_simp; (try with_reducible rfl)
      try simp only [pts]
      refine wpG 1 ?_ rfl (by kernel_rfl) (fun _ _ _ h => h) (by rfl) (fun wx => ?_) hS ?_
      rotate_left
      · go_simp; (try with_reducible rfl)
      try simp only [pts]
      refine wpG 2 ?_ rfl (by kernel_rfl) (fun _ _ _ h => h) (by rfl) (fun wx => ?_) hS ?_
      rotate_left
      · go_simp; (try with_reducible rfl)
      try simp only [pts]
      refine wpG 3 ?_ rfl (by kernel_rfl) (fun _ _ _ h => h) (by rfl) (fun wx => ?_) hS ?_
      rotate_left
      · go_simp; (try with_reducible rfl)
      try simp only [pts]
      refine wpG 4 ?_ rfl (by kernel_rfl) (fun _ _ _ h => h) (by rfl) (fun wx => ?_) hS ?_
      rotate_left
      · go_simp; (try with_reducible rfl)
      try simp only [pts]
      refine wpT 5 ?_ rfl (by kernel_rfl) (fun _ _ _ h => h) (Or.inl ⟨by rfl, fun wx hSw => ?_⟩) hS ?_
      rotate_left
      · have hq := hSw.1.bad; (try dsimp only at hSw); go_simp; (try with_reducible rfl)
      try simp only [pts]
      refine wpG 6 ?_ rfl (by kernel_rfl) (fun _ _ _ h => h) (by rfl) (fun wx => ?_) hS ?_
      rotate_left
      · go_simp; (try with_reducible rfl)
      try simp only [pts]
      refine wpT 7 ?_ rfl (by kernel_rfl) (fun _ _ _ h => h) (Or.inl ⟨by rfl, fun wx hSw => ?_⟩) hS ?_
      rotate_left
      · have hq := hSw.2.1.cell 1; (try dsimp only at hSw); go_simp; (try with_reducible rfl)
      try simp only [pts]
      refine wpG 8 ?_ rfl (by kernel_rfl) (fun _ _ _ h => h) (by rfl) (fun wx => ?_) hS ?_
      rotate_left
      · go_simp; (try with_reducible rfl)
      try simp only [pts]
      refine wpT 9 ?_ rfl (by kernel_rfl) (fun _ _ _ h => h) (Or.inl ⟨by rfl, fun wx hSw => ?_⟩) hS ?_
      rotate_left
      · have hq := hSw.2.1.cell 2; (try dsimp only at hSw); go_simp; (try with_reducible rfl)
      try simp only [pts]
      refine wpAnyG_last rfl (by kernel_rfl) (by kernel_rfl) (by kernel_rfl) (fun K hK => ?_)
      go_simp
      (with_reducible refine (KD.out _ hS.2.2).mono ?_)
      rintro e w5 hp
      obtain rfl := hp.1
      have HP := Lib.hid hp
      have HB5 := Lib.hid hS.2.2
      clear hp hS
      refine hK.out _ _ ?_
      clear hK K
      try simp only [pts]
      go_wp2_with fail
      go_roundw
      case rel => exact LiRel.put HLJ.out HMs.out HV.out HB5.out HP.out H1.out HT.out H4.out
      case measure => simp [intOf]; omega
    · obtain rfl : j = Ls.length := by omega
      have HR := Lib.hid hR
      have HB := Lib.hid hB
      have HMs := Lib.hid hM
      have HV := Lib.hid hV
      clear hR hB hM hV
      go_wp2_with fail
      go_end0
      exact ⟨rfl, bx', Ms', HR.out, HB.out, fun i hi => by rw [HMs.out i hi, List.take_length], HV.out⟩
end Go.Proofs.Ytofeoeknmlkjgaa.Nk
end
section
/- (*run).post: what a node says goes to all others. -/
set_option linter.unusedVariables false
namespace Go.Proofs.Ytofeoeknmlkjgaa.Nk
open Go.RowKit Go.Proofs.Ytofeoeknmlkjgaa Mb Fi Sm Crc

def PostPost (m : Pm) (fd : Nat) (g base : Nat) (x : Cl) (y : InD) (bx : Nat → Value) (Ms : Nat → List Mg) (w : World) (e : Ending) (w' : World) : Prop :=
  e = .returned (.tuple #[]) ∧ ∃ bx' Ms', RunB w' g x y bx' ∧ Bx w' base g bx' Ms' ∧ (∀ i, i < 4 → (Ms' i).map Mg.pm = (Ms i).map Mg.pm ++ (if i = fd then [] else [m])) ∧ Mv w g bx w' bx'
def PoRel (m : Pm) (fd g base : Nat) (x : Cl) (y : InD) (bx : Nat → Value) (Ms : Nat → List Mg) (w : World) (gm : Nat) (mc : Array Value) (bv : Value) (nb : Nat) (zs : List Int) (iv : Value) (wr : World) : Prop :=
  ∃ (j : Nat) (bx' : Nat → Value) (Ms' : Nat → List Mg), iv = .int .i64 j ∧ j ≤ 4 ∧ RunB wr g x y bx' ∧ Bx wr base g bx' Ms' ∧ (∀ i, i < 4 → (Ms' i).map Mg.pm = (Ms i).map Mg.pm ++ (if i < j ∧ i ≠ fd then [m] else [])) ∧ Mv w g bx wr bx' ∧
    Blk wr gm 64 mc ∧ wr.ownsRow w.heap.size 5 1 bv nb (zs.map (Value.int .u8)) ∧ g ≠ gm ∧ ∀ i q, i < 4 → (bx' i).ownBlock = some q → q ≠ gm
section
variable {m : Pm} {fd g base : Nat} {x : Cl} {y : InD} {bx bx' bx'' : Nat → Value} {Ms Ms' Ms'' : Nat → List Mg} {w wr w2 : World} {gm : Nat} {mc : Array Value} {bv : Value} {nb : Nat} {zs : List Int} {j : Nat}
theorem PoRel.skip (hj : j < 4) (hR : RunB wr g x y bx') (hB : Bx wr base g bx' Ms') (hM : ∀ i, i < 4 → (Ms' i).map Mg.pm = (Ms i).map Mg.pm ++ (if i < j ∧ i ≠ fd then [m] else [])) (hV : Mv w g bx wr bx')
    (hm : Blk wr gm 64 mc) (ho : wr.ownsRow w.heap.size 5 1 bv nb (zs.map (Value.int .u8))) (hne : g ≠ gm) (hq : ∀ i q, i < 4 → (bx' i).ownBlock = some q → q ≠ gm) (he : j = fd) :
    PoRel m fd g base x y bx Ms w gm mc bv nb zs (.int .i64 ((j : Int) + 1)) wr :=
  ⟨j + 1, bx', Ms', by go_num, hj, hR, hB, fun i hi => by
    rw [hM i hi]
    congr 1
    by_cases c : i < j ∧ i ≠ fd
    · rw [if_pos c, if_pos ⟨by omega, c.2⟩]
    · rw [if_neg c, if_neg (by omega)], hV, hm, ho, hne, hq⟩
theorem PoRel.put {f : Int} (hj : j < 4) (hR : RunB wr g x y bx') (hB : Bx wr base g bx' Ms') (hM : ∀ i, i < 4 → (Ms' i).map Mg.pm = (Ms i).map Mg.pm ++ (if i < j ∧ i ≠ fd then [m] else [])) (hV : Mv w g bx wr bx')
    (hm : Blk wr gm 64 mc) (ho : wr.ownsRow w.heap.size 5 1 bv nb (zs.map (Value.int .u8))) (hne : g ≠ gm) (hq : ∀ i q, i < 4 → (bx' i).ownBlock = some q → q ≠ gm) (he : j ≠ fd) {e : Ending}
    (hp : DlvPost f j zs g base x y bx' Ms' wr e w2) (hd : dlv f zs = [m]) :
    PoRel m fd g base x y bx Ms w gm mc bv nb zs (.int .i64 ((j : Int) + 1)) w2 := by
  obtain ⟨_, bx'', Ms'', h1, h2, h3, h4, h5⟩ := hp
  refine ⟨j + 1, bx'', Ms'', by go_num, hj, h1, h2, fun i hi => ?_, hV.trans h5, ?_, ?_, hne, fun i q hi hq' => ?_⟩
  · by_cases c : i = j
    · subst c
      rw [h4, hM i hi, hd, if_neg (by omega), if_pos ⟨by omega, he⟩, List.append_nil]
    · rw [h3 i c, hM i hi]
      congr 1
      by_cases c2 : i < j ∧ i ≠ fd
      · rw [if_pos c2, if_pos ⟨by omega, c2.2⟩]
      · rw [if_neg c2, if_neg (by omega)]
  · refine h5.1.blk hm fun hs => ?_
    rcases hs with h | ⟨i, hi, h⟩
    · exact hne h.symm
    · exact hq i gm hi h rfl
  · exact h5.own hB ho (by decide) hR (by decide)
  · rcases h5.2 i q hi hq' with h | h
    · exact hq i q hi h
    · have := Blk.lt hm; omega
end

set_option maxRecDepth 100000 in
set_option maxHeartbeats 4000000 in
theorem post_any (k f r : Int) (A : Option Addr) (n c : Nat) (vs : List Int) (fd g base : Nat) (x : Cl) (y : InD) (bx : Nat → Value) (Ms : Nat → List Mg) (w : World) (hf : f = (fd : Int)) (hfd : fd < 4) (hR : RunB w g x y bx) (hB : Bx w base g bx Ms)
    (hI : Ints w .i64 A n vs) (hv : ∀ v ∈ vs, In64 v) (hr : Wr.rightE k f r n = 0) (hbase : base ≤ w.heap.size) (hlen : ∀ i, i < 4 → (Ms i).length ≤ 99999) :
    Calls Try.prog 65 #[.pointer (some ⟨g, 0, none⟩), .agg #[.int .i64 k, .int .i64 f, .int .i64 r, .slice A n c]] w (PostPost ⟨k, f, r, vs⟩ fd g base x y bx Ms w) := by
  obtain rfl : vs.length = n := hI.1
  subst hf
  have h24 := (Wr.right0.1 hr).2.2.2.2.2.2
  have hW1 : Below w.heap.size w (w.alloc (.cells #[.int .i64 k, .int .i64 fd, .int .i64 r, .slice A vs.length c] 64)) := (Below.refl _ _).alloc (Nat.le_refl _) _
  have KE := Lib.hid (Wr.enc_ok k fd r A vs.length c vs _ (hI.next hW1) hv hr)
  have HM1 := Lib.hid (Blk.new w 64 #[.int .i64 k, .int .i64 fd, .int .i64 r, .slice A vs.length c])
  have HR1 := Lib.hid (hR.next hW1)
  have HB1 := Lib.hid (hB.next hW1)
  have HW1 := Lib.hid hW1
  have HIS := Lib.hid (show Wr.IsMsg (sealed (Wr.encB k fd r vs)) k fd r vs from ⟨hr, hv, rfl⟩)
  have HZ := Lib.hid (sealed_in _ (Wr.encB_in k fd r vs hr))
  have hg := Blk.lt hR
  have HLT := Lib.hid (fun i q (hi : i < 4) (hq : (bx i).ownBlock = some q) => (hB.lt hi hq).1)
  have HLEN := Lib.hid hlen
  clear hW1 hR hB hI hv hr hlen
  go_enter Try.func65, Try.ntmps65
  go_upto_region 4 with (first
    | (go_at_call 76; (with_reducible refine KE.out.mono ?_); rintro e w2 ⟨A', c', rfl, hnb⟩; have HNB := Lib.hid hnb; clear hnb))
  have hR2 := HR1.out.next HNB.out.2
  have hB2 := HB1.out.next HNB.out.2
  have hM2 := HM1.out.next HNB.out.2
  have hW2 := HW1.out.trans (HNB.out.2.mono HW1.out.size)
  have hS : Hid (PoRel ⟨k, fd, r, vs⟩ fd g base x y bx Ms w w.heap.size #[.int .i64 k, .int .i64 fd, .int .i64 r, .slice A vs.length c] (.slice A' (8 + 8 * vs.length + 4) c') (8 + 8 * vs.length + 4) (sealed (Wr.encB k fd r vs)) (.int .i64 0) w2) :=
    ⟨0, bx, Ms, rfl, by omega, hR2, hB2, fun i hi => by simp, Mv.below hW2, hM2, own_le HNB.out.1 (by simp), by omega, fun i q hi hq => by have := HLT.out i q hi hq; omega⟩
  have hdl : dlv (fd : Int) (sealed (Wr.encB k fd r vs)) = [⟨k, fd, r, vs⟩] := by
    unfold dlv; rw [msgOf_some HIS.out]; simp
  have HDL := Lib.hid hdl
  have hsz := hW2.size
  clear hR2 hB2 hM2 hW2 hdl HR1 HB1 HW1 HM1 HNB KE
  generalize sealed (Wr.encB k fd r vs) = zs at *
  have hnb : 8 + 8 * vs.length + 4 ≤ 300 := by omega
  generalize 8 + 8 * vs.length + 4 = nb at *
  go_loopw [14] (fun iv wr => PoRel ⟨k, fd, r, vs⟩ fd g base x y bx Ms w w.heap.size #[.int .i64 k, .int .i64 fd, .int .i64 r, .slice A vs.length c] (.slice A' nb c') nb zs iv wr) (fun iv _ => 4 - (intOf iv).toNat)
  case atStart => exact hS.out
  case round =>
    clear hS
    obtain ⟨j, bx', Ms', rfl, hj4, hR, hB, hM, hV, hm, ho, hne, hq⟩ := hrel
    have c1 := hm.cell 1
    (simp only [List.getElem?_toArray, List.getElem?_cons_zero, List.getElem?_cons_succ] at c1)
    have HR := Lib.hid hR
    have HB := Lib.hid hB
    have HMs := Lib.hid hM
    have HV := Lib.hid hV
    have Hm := Lib.hid hm
    have HO := Lib.hid ho
    have HQ := Lib.hid hq
    clear hR hB hM hV hm ho hq
    by_cases hj : j < 4
    · have q0 : (j : Int) < 4 := by omega
      by_cases hjf : j = fd
      · have q1 : ((j : Int) != (fd : Int)) = false := by simp; omega
        have HJ := Lib.hid hjf
        clear hjf
        go_wp2_with (first | go_big_skip)
        go_roundw
        case rel => exact PoRel.skip hj HR.out HB.out HMs.out HV.out Hm.out HO.out hne HQ.out HJ.out
        case measure => simp [intOf]; omega
      · have q1 : ((j : Int) != (fd : Int)) = true := by simp; omega
        have HJ := Lib.hid hjf
        have hop := own_parts HO.out
        have hml : ((Ms' j).map Mg.pm).length = ((Ms j).map Mg.pm ++ (if j < j ∧ j ≠ fd then [(⟨k, fd, r, vs⟩ : Pm)] else [])).length := by rw [HMs.out j hj]
        rw [List.length_append, List.length_map, List.length_map, if_neg (by omega)] at hml
        have hl2 := HLEN.out j hj
        have KD := Lib.hid (deliver_any fd j A' nb c' zs g base x y bx' Ms' wr HR.out HB.out (Ints.own HO.out) hop.2.1 (by omega) HZ.out hj (Nat.le_trans hbase HV.out.1.2.2.2.1) (by simp at hml; omega))
        clear hjf hop hml hl2
        go_wp2_with (first
          | (go_at_call 75; (with_reducible refine KD.out.mono ?_); rintro e w3 hp; obtain rfl := hp.1; have HP := Lib.hid hp; clear hp))
        go_roundw
        case rel => exact PoRel.put hj HR.out HB.out HMs.out HV.out Hm.out HO.out hne HQ.out HJ.out HP.out HDL.out
        case measure => simp [intOf]; omega
    · obtain rfl : j = 4 := by omega
      go_wp2_with fail
      go_end0
      exact ⟨rfl, bx', Ms', HR.out, HB.out, fun i hi => by
        rw [HMs.out i hi]
        congr 1
        by_cases c : i = fd
        · rw [if_pos c, if_neg (by omega)]
        · rw [if_neg c, if_pos ⟨hi, c⟩], HV.out⟩
end Go.Proofs.Ytofeoeknmlkjgaa.Nk
end
section
/- Parts of the run's block: a node, the boxes. -/
set_option linter.unusedVariables false
namespace Go.Proofs.Ytofeoeknmlkjgaa.Nk
open Go.RowKit Go.Proofs.Ytofeoeknmlkjgaa Mb Fi Sm

theorem AN_list {m : Nat} {f : Nat → Value} {j : Nat} {v : Value} (h : (AN m f).toList[j]? = some v) : j < m ∧ f j = v := by
  have hj : j < m := by
    have := (List.getElem?_eq_some_iff.1 h).1
    rw [Array.length_toList, AN_size] at this; exact this
  rw [Array.getElem?_toList, AN_get hj] at h
  injection h with h
  exact ⟨hj, h⟩
theorem AN_getD {m : Nat} {f : Nat → Value} {j : Nat} (hj : j < m) : (AN m f).toList.getD j undef = f j := by
  simp only [List.getD, Array.getElem?_toList]
  rw [AN_get hj]; rfl
def Cl.put (x : Cl) (i : Nat) (n : Nd) (v : Value) : Cl := ⟨x.fr, upd x.N i n, upd x.va i v⟩
section
variable {W : World} {g i : Nat} {x : Cl} {y : InD} {bx : Nat → Value}
theorem RunB.nodeR (h : RunB W g x y bx) (hi : i < 4) : W.rangeAt g (1 + i * 74) (NA (x.N i) (x.va i)).toList := by
  intro j v hj
  obtain ⟨hlt, e⟩ := AN_list hj
  rw [h.at_ (by omega), ← e]
  unfold runc
  rw [if_pos (by omega), x.c_node hi hlt]
theorem RunB.boxR (h : RunB W g x y bx) : W.rangeAt g 311 (AN 4 bx).toList := by
  intro j v hj
  obtain ⟨hlt, e⟩ := AN_list hj
  rw [h.at_ (by omega), ← e]
  unfold runc
  rw [if_neg (by omega), if_neg (by omega), show 311 + j - 311 = j by omega]
theorem RunB.thereR (h : RunB W g x y bx) {o k : Nat} (hk : o + k ≤ 315) : W.there g o k := fun j hj => by
  rw [h.at_ (by omega)]
  exact ⟨rfl, Blk.frozen h _⟩
theorem RunB.setR {x' : Cl} {y' : InD} {bx' : Nat → Value} {o : Nat} {vs : List Value} (h : RunB W g x y bx) (he : ∀ k, k < 315 → runc x' y' bx' k = if o ≤ k ∧ k < o + vs.length then vs.getD (k - o) undef else runc x y bx k) : RunB (W.setCells g o vs) g x' y' bx' := by
  have := blk_setCells_AN (o := o) (vs := vs) h
  unfold RunB RA
  rw [AN_congr he]
  exact this
theorem RunB.setNode (h : RunB W g x y bx) (hi : i < 4) (n : Nd) (v : Value) : RunB (W.setCells g (1 + i * 74) (NA n v).toList) g (x.put i n v) y bx := by
  refine h.setR fun k hk => ?_
  have hl : (NA n v).toList.length = 74 := by rw [Array.length_toList, NA_size]
  rw [hl]
  by_cases a : 1 + i * 74 ≤ k ∧ k < 1 + i * 74 + 74
  · rw [if_pos a]
    unfold NA
    rw [AN_getD (by omega)]
    unfold runc Cl.c Cl.put
    simp only
    rw [if_pos (by omega), if_neg (by omega), show (k - 1) / 74 = i by omega, upd_same, upd_same, show (k - 1) % 74 = k - (1 + i * 74) by omega]
  · rw [if_neg a]
    unfold runc
    by_cases b : k < 297
    · rw [if_pos b, if_pos b]
      unfold Cl.c Cl.put
      simp only
      by_cases c : k < 1
      · rw [if_pos c, if_pos c]
      · rw [if_neg c, if_neg c, upd_far _ _ (by omega), upd_far _ _ (by omega)]
    · rw [if_neg b, if_neg b]
theorem RunB.setBoxes (h : RunB W g x y bx) (bx' : Nat → Value) : RunB (W.setCells g 311 (AN 4 bx').toList) g x y bx' := by
  refine h.setR fun k hk => ?_
  have hl : (AN 4 bx').toList.length = 4 := by rw [Array.length_toList, AN_size]
  rw [hl]
  by_cases a : 311 ≤ k ∧ k < 311 + 4
  · rw [if_pos a, AN_getD (by omega)]
    unfold runc
    rw [if_neg (by omega), if_neg (by omega)]
  · rw [if_neg a]
    unfold runc
    by_cases b : k < 297
    · rw [if_pos b, if_pos b]
    · rw [if_neg b, if_neg b, if_pos (by omega), if_pos (by omega)]
end
theorem info4b : (Try.prog.info? 113).map (·.size) = some 4 := by kernel_rfl
theorem exec_load_node {o : Oper} {ρ : Operand → Value} {w : World} (q : Operand) (ho : o.op = .load 45 q) (g off : Nat) (hq : ρ q = .pointer (some ⟨g, off, none⟩)) (n : Nd) (v : Value) (hb : w.rangeAt g off (NA n v).toList) :
    (execOp ρ o).run Try.prog w = .ok (.value (.agg (NA n v))) w := by
  have := exec_load_mid 45 q ho g off hq (NA n v).toList _ hb Try.underlying45 rfl (by rw [Array.length_toList, NA_size]; exact infoNode)
  simpa using this
theorem wp_store_run {o : Oper} {a : Act} {w : World} {K : Act → World → Prop} {Q : Exit → Act → World → Prop} (q u : Operand) (ho : o.op = .store 45 q u) (g i : Nat) (n : Nd) (A : Option Addr) (m c : Nat) {x : Cl} {y : InD} {bx : Nat → Value} (hi : i < 4)
    (hq : a.eval q = .pointer (some ⟨g, 1 + i * 74, none⟩)) (hu : a.eval u = .agg (NA n (.slice A m c))) (hR : RunB w g x y bx)
    (h : ∀ w', RunB w' g (x.put i n (.slice A m c)) y bx → w.grownBy w' (some g) → K (a.put o.dst undef) w') : o.wp Try.prog a w K Q := by
  refine wp_store_mid 45 q u ho g (1 + i * 74) _ hq hu (hR.thereR (by rw [NA_size]; omega)) (by rw [NA_size]; exact infoNode) (NA_one _ _ _ _) (h _ (hR.setNode hi n _) (grown_setCells _ _ _ _))
theorem wpList_store_boxes {ops : Array Oper} {rest : List Oper} {o : Oper} {a : Act} {w : World} {Q : Exit → Act → World → Prop} (hgd : o.guard = none) (q u : Operand) (ho : o.op = .store 113 q u) (g : Nat) {x : Cl} {y : InD} {bx : Nat → Value}
    (hq : a.eval q = .pointer (some ⟨g, 311, none⟩)) (hu : a.eval u = .agg #[.slice none 0 0, .slice none 0 0, .slice none 0 0, .slice none 0 0]) (hR : RunB w g x y bx)
    (h : ∀ w', RunB w' g x y (fun _ => .slice none 0 0) → w.grownBy w' (some g) → wpList Try.prog ops Q rest (a.put o.dst undef) w') : wpList Try.prog ops Q (o :: rest) a w :=
  wpList_store_mid hgd 113 q u ho g 311 #[.slice none 0 0, .slice none 0 0, .slice none 0 0, .slice none 0 0] hq hu (hR.thereR (by decide)) info4b (by simp [Value.oneCell']) (h _ (hR.setBoxes (fun _ => .slice none 0 0)) (grown_setCells _ _ _ _))
end Go.Proofs.Ytofeoeknmlkjgaa.Nk
end
section
/- (*run).phase: what all five walks share. -/
set_option linter.unusedVariables false
namespace Go.Proofs.Ytofeoeknmlkjgaa.Nk
open Go.RowKit Go.Proofs.Ytofeoeknmlkjgaa Mb Fi Sm

def AgR (w : World) (B : Nat) (va : Nat → Value) (bs : Nat → List Value) : Prop := ∀ j, j < 4 → w.ownsRow B 4 1 (va j) (bs j).length (bs j)
def mixN {α : Type} (bad : Int) (n0 n1 : Nat → α) (i : Nat) : Nat → α := fun j => if j < i ∧ ¬ (j : Int) = bad then n1 j else n0 j
theorem mixN_zero {α : Type} (bad : Int) (n0 n1 : Nat → α) : mixN bad n0 n1 0 = n0 := by funext j; unfold mixN; rw [if_neg (by omega)]
theorem mixN_bad {α : Type} {bad : Int} (n0 n1 : Nat → α) {i : Nat} (h : (i : Int) = bad) : mixN bad n0 n1 (i + 1) = mixN bad n0 n1 i := by
  funext j
  show (if j < i + 1 ∧ ¬ (j : Int) = bad then n1 j else n0 j) = (if j < i ∧ ¬ (j : Int) = bad then n1 j else n0 j)
  by_cases c : j < i ∧ ¬ (j : Int) = bad
  · rw [if_pos c, if_pos ⟨by omega, c.2⟩]
  · rw [if_neg c, if_neg (by omega)]
theorem mixN_put {α : Type} {bad : Int} (n0 n1 : Nat → α) {i : Nat} (h : ¬ (i : Int) = bad) : mixN bad n0 n1 (i + 1) = upd (mixN bad n0 n1 i) i (n1 i) := by
  funext j
  show (if j < i + 1 ∧ ¬ (j : Int) = bad then n1 j else n0 j) = (if j = i then n1 i else (if j < i ∧ ¬ (j : Int) = bad then n1 j else n0 j))
  by_cases c : j = i
  · subst c; rw [if_pos ⟨by omega, h⟩, if_pos rfl]
  · rw [if_neg c]
    by_cases c2 : j < i ∧ ¬ (j : Int) = bad
    · rw [if_pos c2, if_pos ⟨by omega, c2.2⟩]
    · rw [if_neg c2, if_neg (by omega)]
theorem mixN_at {α : Type} (bad : Int) (n0 n1 : Nat → α) (i : Nat) : mixN bad n0 n1 i i = n0 i := by unfold mixN; rw [if_neg (by omega)]
def PhRel (g B : Nat) (y : InD) (k : Nat) (Ls : List Li) (fr : Int) (n0 n1 : Nat → Nd) (bs0 bs1 : Nat → List Value) (obx : Nat → Value) (M : Nat → Pm) (w0 : World) (iv : Value) (wr : World) : Prop :=
  ∃ (i : Nat) (va bx' : Nat → Value) (Ms' : Nat → List Mg), iv = .int .i64 i ∧ i ≤ 4 ∧ RunB wr g ⟨fr, mixN y.bad n0 n1 i, va⟩ y bx' ∧ Bx wr w0.heap.size g bx' Ms' ∧ AgR wr B va (mixN y.bad bs0 bs1 i) ∧
    (∀ t, t < 4 → (Ms' t).map Mg.pm = boxF y.bad (lieL y.bad k t (Ls.map Li.ly)) M t i) ∧ w0.grownBy wr (some g) ∧ Blk wr w0.heap.size 113 (AN 4 obx)
def PhsPost (g B : Nat) (y : InD) (k : Nat) (Ls : List Li) (fr : Int) (n0 n1 : Nat → Nd) (bs0 bs1 : Nat → List Value) (M : Nat → Pm) (w0 : World) (e : Ending) (w' : World) : Prop :=
  e = .returned (.tuple #[]) ∧ ∃ va' bx' Ms', RunB w' g ⟨fr, mixN y.bad n0 n1 4, va'⟩ y bx' ∧ Bx w' B g bx' Ms' ∧ AgR w' B va' (mixN y.bad bs0 bs1 4) ∧
    (∀ t, t < 4 → (Ms' t).map Mg.pm = boxF y.bad (lieL y.bad k t (Ls.map Li.ly)) M t 4) ∧ Below B w0 w'
def PhCut (w5 : World) (n' : Nd) (bs : List Value) (kd f r : Int) (vs : List Int) (s8 s9 : Value) (wx : World) : Prop :=
  ∃ q8 q9 A' c' Am cm, s8 = .pointer (some ⟨q8, 0, none⟩) ∧ s9 = .pointer (some ⟨q9, 0, none⟩) ∧ Blk wx q8 45 (NA n' (.slice A' bs.length c')) ∧ Blk wx q9 64 #[.int .i64 kd, .int .i64 f, .int .i64 r, .slice Am vs.length cm] ∧
    wx.ownsRow w5.heap.size 4 1 (.slice A' bs.length c') bs.length bs ∧ OwnI wx w5.heap.size Am vs.length cm vs ∧ Below w5.heap.size w5 wx ∧ w5.heap.size ≤ q9
theorem ph_cut {w5 w6 w7 w8 : World} {n' : Nd} {A' Am : Option Addr} {c' cm q8 q9 : Nat} {bs : List Value} {k f r : Int} {vs : List Int} {zc ms : Array Value} (hq8 : w5.heap.size ≤ q8) (hq9 : w5.heap.size ≤ q9) (h12 : q9 ≠ q8)
    (hZ : Blk w6 q8 45 zc) (hM : Blk w6 q9 64 ms) (hO : w6.ownsRow w5.heap.size 4 1 (.slice A' bs.length c') bs.length bs) (hV : OwnI w6 w5.heap.size Am vs.length cm vs) (hB : Below w5.heap.size w5 w6)
    (hN7 : Blk w7 q8 45 (NA n' (.slice A' bs.length c'))) (hg7 : w6.grownBy w7 (some q8)) (hM8 : Blk w8 q9 64 #[.int .i64 k, .int .i64 f, .int .i64 r, .slice Am vs.length cm]) (hg8 : w7.grownBy w8 (some q9))
    (hne : ∀ ad, Am = some ad → ad.block ≠ q8 ∧ ad.block ≠ q9) : PhCut w5 n' bs k f r vs (.pointer (some ⟨q8, 0, none⟩)) (.pointer (some ⟨q9, 0, none⟩)) w8 := by
  have hm7 := hM.grown hg7 (by intro e; exact h12 (Option.some.inj e))
  have h7 := hB.grown hg7 hB.size (fun j hj => by cases hj; exact hq8)
  exact ⟨q8, q9, A', c', Am, cm, rfl, rfl, hN7.grown hg8 (by intro e; exact h12 (Option.some.inj e).symm), hM8, own_kept_t (own_kept_t hO hg7 hZ (by decide)) hg8 hm7 (by decide),
    (hV.grown hg7 (fun ad e => (hne ad e).1)).grown hg8 (fun ad e => (hne ad e).2), h7.grown hg8 h7.size (fun j hj => by cases hj; exact hq9), hq9⟩
theorem boxF_len (bad : Int) (lie : List Pm) (m : Nat → Pm) (tt : Nat) : ∀ i, (boxF bad lie m tt i).length ≤ i * (lie.length + 1)
  | 0 => Nat.zero_le _
  | i + 1 => by
    have := boxF_len bad lie m tt i
    rw [boxF, List.length_append]
    have h2 : (if (i : Int) = bad then lie else if i = tt then [] else [m i]).length ≤ lie.length + 1 := by
      split
      · omega
      · split
        · simp
        · simp
    rw [Nat.succ_mul]
    omega
section
variable {g B k : Nat} {y : InD} {Ls : List Li} {fr : Int} {n0 n1 : Nat → Nd} {bs0 bs1 : Nat → List Value} {obx va bx' bx'' : Nat → Value} {M : Nat → Pm} {Ms' Ms'' : Nat → List Mg} {w0 wr w2 : World} {i : Nat}
theorem Bx.le {B' : Nat} (h : Bx wr B g bx' Ms') (hB : B' ≤ B) : Bx wr B' g bx' Ms' := ⟨fun i hi => ⟨own_le (h.1 i hi).1 hB, (h.1 i hi).2⟩, h.2.1, h.2.2⟩
theorem own_one4 (h : Bx wr B g bx' Ms') (hi : i < 4) : (bx' i).oneCell' = true := by
  obtain ⟨A, c, e⟩ := own_shape (h.1 i hi).1
  rw [e]; rfl
theorem grown_bel (h : w0.grownBy wr (some g)) (hBg : B ≤ g) (hB0 : B ≤ w0.heap.size) : Below B w0 wr :=
  ⟨h.os, h.tape, h.output, h.size, fun q hq => h.block q (by omega) (by intro e; have := Option.some.inj e; omega)⟩
theorem Mv.blk {q : Nat} {t : TypeId} {cs : Array Value} (h : Mv wr g bx' w2 bx'') (hB : Bx wr B g bx' Ms') (hq : Blk wr q t cs) (hne : q ≠ g) (ht : 64 ≠ t) : Blk w2 q t cs :=
  h.1.blk hq fun hs => by
    rcases hs with e | ⟨j, hj, e⟩
    · exact hne e
    · exact own_blk_ne (hB.1 j hj).1 hq ht e.symm
theorem PhRel.bad {e : Ending} (hi : i < 4) (hg0 : g < w0.heap.size) (hR : RunB wr g ⟨fr, mixN y.bad n0 n1 i, va⟩ y bx') (hB : Bx wr w0.heap.size g bx' Ms') (hA : AgR wr B va (mixN y.bad bs0 bs1 i)) (hM : ∀ t, t < 4 → (Ms' t).map Mg.pm = boxF y.bad (lieL y.bad k t (Ls.map Li.ly)) M t i)
    (hG : w0.grownBy wr (some g)) (hO : Blk wr w0.heap.size 113 (AN 4 obx)) (hb : (i : Int) = y.bad)
    (hp : LiePost k g w0.heap.size ⟨fr, mixN y.bad n0 n1 i, va⟩ y Ls bx' Ms' wr e w2) : PhRel g B y k Ls fr n0 n1 bs0 bs1 obx M w0 (.int .i64 ((i : Int) + 1)) w2 := by
  obtain ⟨_, bx'', Ms'', h1, h2, h3, h4⟩ := hp
  refine ⟨i + 1, va, bx'', Ms'', by go_num, hi, ?_, h2, ?_, fun t ht => ?_, h4.grown hG (fun j q hj hq => (hB.lt hj hq).2), h4.blk hB hO (by omega) (by decide)⟩
  · rw [mixN_bad _ _ hb]; exact h1
  · rw [mixN_bad _ _ hb]; exact fun j hj => h4.own hB (hA j hj) (by decide) hR (by decide)
  · rw [h3 t ht, hM t ht, boxF, if_pos hb]
theorem PhRel.good {w4 w5 : World} {e : Ending} {A' : Option Addr} {c' : Nat} {m : Pm} (hi : i < 4) (hg0 : g < w0.heap.size) (hB0 : B ≤ w0.heap.size) (hR : RunB wr g ⟨fr, mixN y.bad n0 n1 i, va⟩ y bx') (hB : Bx wr w0.heap.size g bx' Ms') (hA : AgR wr B va (mixN y.bad bs0 bs1 i)) (hM : ∀ t, t < 4 → (Ms' t).map Mg.pm = boxF y.bad (lieL y.bad k t (Ls.map Li.ly)) M t i)
    (hG : w0.grownBy wr (some g)) (hO : Blk wr w0.heap.size 113 (AN 4 obx)) (hb : ¬ (i : Int) = y.bad) (hwx : Below wr.heap.size wr w4) (hown : w4.ownsRow wr.heap.size 4 1 (.slice A' (bs1 i).length c') (bs1 i).length (bs1 i))
    (hR5 : RunB w5 g (Cl.put ⟨fr, mixN y.bad n0 n1 i, va⟩ i (n1 i) (.slice A' (bs1 i).length c')) y bx') (hg5 : w4.grownBy w5 (some g)) (hm : M i = m)
    (hp : PostPost m i g w0.heap.size (Cl.put ⟨fr, mixN y.bad n0 n1 i, va⟩ i (n1 i) (.slice A' (bs1 i).length c')) y bx' Ms' w5 e w2) : PhRel g B y k Ls fr n0 n1 bs0 bs1 obx M w0 (.int .i64 ((i : Int) + 1)) w2 := by
  obtain ⟨_, bx'', Ms'', h1, h2, h3, h4⟩ := hp
  have hR4 := hR.next hwx
  have hB4 := hB.next hwx
  have hB5 := hB4.run hR4 (by decide) hg5
  have hkeep : ∀ {base : Nat} {v : Value} {n : Nat} {xs : List Value}, w4.ownsRow base 4 1 v n xs → w2.ownsRow base 4 1 v n xs := fun ho => h4.own hB5 (own_kept_t ho hg5 hR4 (by decide)) (by decide) hR5 (by decide)
  have hG5 : w0.grownBy w5 (some g) := grown_trans hG (grown_trans (grown_below hwx) hg5)
  refine ⟨i + 1, upd va i (.slice A' (bs1 i).length c'), bx'', Ms'', by go_num, hi, ?_, h2, ?_, fun t ht => ?_, h4.grown hG5 (fun j q hj hq => (hB5.lt hj hq).2), h4.blk hB5 ((hO.next hwx).grown hg5 (by intro e; have := Option.some.inj e; omega)) (by omega) (by decide)⟩
  · rw [mixN_put _ _ hb]; exact h1
  · rw [mixN_put _ _ hb]
    intro j hj
    by_cases c : j = i
    · subst c
      rw [upd_same, upd_same]
      exact own_le (hkeep hown) (Nat.le_trans hB0 hG.size)
    · rw [upd_far _ _ c, upd_far _ _ c]
      exact hkeep (own_below (hA j hj) hwx (fun x hx => ((hA j hj).lt x hx).2))
  · rw [h3 t ht, hM t ht, boxF, if_neg hb, hm]
    congr 1
    by_cases c : i = t
    · rw [if_pos c, if_pos c.symm]
    · rw [if_neg c, if_neg (fun h => c h.symm)]
theorem PhRel.done {w2 : World} (h : PhRel g B y k Ls fr n0 n1 bs0 bs1 obx M w0 (.int .i64 4) w2) (hBg : B ≤ g) (hB0 : B ≤ w0.heap.size) : PhsPost g B y k Ls fr n0 n1 bs0 bs1 M w0 (.returned (.tuple #[])) w2 := by
  obtain ⟨i, va, bx', Ms', e, hi, h1, h2, h3, h4, h5, _⟩ := h
  have : i = 4 := by injection e with _ e; omega
  subst this
  exact ⟨rfl, va, bx', Ms', h1, h2.le hB0, h3, h4, grown_bel h5 hBg hB0⟩
end
end Go.Proofs.Ytofeoeknmlkjgaa.Nk
end
section
/- Frame's first phase: the function literal over node.Sense. -/
set_option linter.unusedVariables false
namespace Go.Proofs.Ytofeoeknmlkjgaa.Nk
open Go.RowKit Go.Proofs.Ytofeoeknmlkjgaa Mb Fi Sm

theorem info3 : (Try.prog.info? 39).map (·.size) = some 3 := by kernel_rfl
def CB (W : World) (g : Nat) (x : Cl) : Prop := Blk W g 48 (CA x)
def IB (W : World) (g : Nat) (y : InD) : Prop := Blk W g 51 (IA y)
section
variable {W W' : World} {g i : Nat} {x : Cl} {y : InD}
theorem CB.at_ (h : CB W g x) {k : Nat} (hk : k < 297) : W.cell? ⟨g, k, none⟩ = some (x.c k) := by
  have := Blk.cell h k
  rw [this]; unfold CA; rw [AN_get hk]
theorem CB.next (h : CB W g x) (hb : Below W.heap.size W W') : CB W' g x := Blk.next h hb
theorem CB.fr (h : CB W g x) : W.cell? ⟨g, 0, none⟩ = some (.int .i64 x.fr) := h.at_ (by omega)
theorem IB.at_ (h : IB W g y) {k : Nat} (hk : k < 14) : W.cell? ⟨g, k, none⟩ = some (y.c k) := by
  have := Blk.cell h k
  rw [this]; unfold IA; rw [AN_get hk]
theorem IB.next (h : IB W g y) (hb : Below W.heap.size W W') : IB W' g y := Blk.next h hb
theorem IB.rdR (h : IB W g y) (hi : i < 4) : W.rangeAt g (i * 3) [.int .i64 (y.rd (i * 3)), .int .i64 (y.rd (i * 3 + 1)), .int .i64 (y.rd (i * 3 + 2))] := by
  intro j v hj
  have hlt : j < 3 := (List.getElem?_eq_some_iff.1 hj).1
  rw [h.at_ (by omega)]
  unfold InD.c
  rw [if_pos (by omega)]
  have : j = 0 ∨ j = 1 ∨ j = 2 := by omega
  rcases this with rfl | rfl | rfl <;> (cases hj; rfl)
theorem IB.bad (h : IB W g y) : W.cell? ⟨g, 12, none⟩ = some (.int .i64 y.bad) := h.at_ (by omega)
theorem IB.lv (h : IB W g y) : W.cell? ⟨g, 13, none⟩ = some y.lv := h.at_ (by omega)
end

set_option maxRecDepth 100000 in
set_option maxHeartbeats 4000000 in
theorem fsense_any (n : Nd) (d : Nat) (A : Option Addr) (m c : Nat) (bs : List Value) (Am : Option Addr) (mm cm : Nat) (gc gi : Nat) (x : Cl) (y : InD) (w : World) (hd : n.id = (d : Int)) (hd4 : d < 4) (hC : CB w gc x) (hI : IB w gi y)
    (hb : VR w 1 A m c bs) (h1 : ∀ u ∈ bs, u.oneCell' = true) (hm : m ≤ 140737488355328) :
    Calls Try.prog 51 #[.agg (NA n (.slice A m c)), .slice Am mm cm, .pointer (some ⟨gc, 0, none⟩), .pointer (some ⟨gi, 0, none⟩)] w (PhPost (senseN n d x.fr (y.rd (d * 3)) (y.rd (d * 3 + 1)) (y.rd (d * 3 + 2))) bs 1 d x.fr [y.rd (d * 3), y.rd (d * 3 + 1), y.rd (d * 3 + 2)] w) := by
  have hzs : (Try.zeroCells45).size = 74 := by kernel_rfl
  have HZS := Lib.hid hzs
  have HCB := Lib.hid hC
  have HIB := Lib.hid hI
  have HVR := Lib.hid hb
  have HD := Lib.hid hd
  clear hzs hC hI hb hd
  go_enter Try.func51, Try.ntmps51
  go_upto_region 1 with fail
  have HN := Lib.hid (show NB (((w.alloc (.cells (NA n (.slice A m c)) 45)).alloc (.cells Try.zeroCells45 45)).alloc (.cells #[.int .i64 0, .int .i64 0, .int .i64 0, .slice none 0 0] 64)) w.heap.size n (.slice A m c) from ((Blk.new _ _ _).alloc _).alloc _)
  have HZ := Lib.hid (show Blk (((w.alloc (.cells (NA n (.slice A m c)) 45)).alloc (.cells Try.zeroCells45 45)).alloc (.cells #[.int .i64 0, .int .i64 0, .int .i64 0, .slice none 0 0] 64)) (w.heap.size + 1) 45 Try.zeroCells45 from (Blk.at_ _ _ _ _ (by simp)).alloc _)
  have HM := Lib.hid (show Blk (((w.alloc (.cells (NA n (.slice A m c)) 45)).alloc (.cells Try.zeroCells45 45)).alloc (.cells #[.int .i64 0, .int .i64 0, .int .i64 0, .slice none 0 0] 64)) (w.heap.size + 1 + 1) 64 #[.int .i64 0, .int .i64 0, .int .i64 0, .slice none 0 0] from Blk.at_ _ _ _ _ (by simp))
  have HB := Lib.hid (show Below w.heap.size w (((w.alloc (.cells (NA n (.slice A m c)) 45)).alloc (.cells Try.zeroCells45 45)).alloc (.cells #[.int .i64 0, .int .i64 0, .int .i64 0, .slice none 0 0] 64)) from (((Below.refl _ _).alloc (Nat.le_refl _) _).alloc (by simp) _).alloc (by simp; omega) _)
  generalize Try.zeroCells45 = zc at *
  generalize ((w.alloc (.cells (NA n (.slice A m c)) 45)).alloc (.cells zc 45)).alloc (.cells #[.int .i64 0, .int .i64 0, .int .i64 0, .slice none 0 0] 64) = W0 at *
  have z1 : (0 : Int) ≤ (d : Int) := by omega
  have z2 : (d : Int) < 4 := by omega
  have SK := Lib.hid (fun W (h : Below W0.heap.size W0 W) => And.intro (HN.out.next h) (And.intro (HCB.out.next (HB.out.trans (h.mono HB.out.size))) (HIB.out.next (HB.out.trans (h.mono HB.out.size)))))
  have KS := Lib.hid (fun W (h : Below W0.heap.size W0 W) => Sense_any n A m c bs x.fr (y.rd (d * 3)) (y.rd (d * 3 + 1)) (y.rd (d * 3 + 2)) d HD.out hd4 W (HVR.out.next (HB.out.trans (h.mono HB.out.size))) h1 hm)
  have HID := Lib.hid (fun W (h : NB W w.heap.size n (.slice A m c)) => show W.cell? ⟨w.heap.size, 0, none⟩ = some (.int .i64 d) from by have e := NB.id h; rw [HD.out] at e; exact e)
  refine wp_region_G 12 (fun w' => NB w' w.heap.size n (.slice A m c) ∧ CB w' gc x ∧ IB w' gi y) (by kernel_rfl) (SK.out _ (Below.refl _ _).drew) (fun hS => ?_)
  refine wpT 0 (.agg (NA n (.slice A m c))) rfl (by kernel_rfl) (fun _ _ _ h => h) (Or.inl ⟨by rfl, fun wx hSw => exec_load_row 45 (.tmp 4) rfl w.heap.size rfl _ _ _ hSw.1 Try.underlying45 rfl (by rw [NA_size]; exact infoNode)⟩) hS ?_
  try simp only [pts]
  refine wpG 1 ?_ rfl (by kernel_rfl) (fun _ _ _ h => h) (by rfl) (fun wx => ?_) hS ?_
  rotate_left
  · go_simp; (try with_reducible rfl)
  try simp only [pts]
  refine wpT 2 ?_ rfl (by kernel_rfl) (fun _ _ _ h => h) (Or.inl ⟨by rfl, fun wx hSw => ?_⟩) hS ?_
  rotate_left
  · have hq := hSw.2.1.fr; (try dsimp only at hSw); go_simp; (try with_reducible rfl)
  try simp only [pts]
  refine wpG 3 ?_ rfl (by kernel_rfl) (fun _ _ _ h => h) (by rfl) (fun wx => ?_) hS ?_
  rotate_left
  · go_simp; (try with_reducible rfl)
  try simp only [pts]
  refine wpT 4 ?_ rfl (by kernel_rfl) (fun _ _ _ h => h) (Or.inl ⟨by rfl, fun wx hSw => ?_⟩) hS ?_
  rotate_left
  · have hq := HID.out _ hSw.1; (try dsimp only at hSw); go_simp; (try with_reducible rfl)
  try simp only [pts]
  refine wpG 5 ?_ rfl (by kernel_rfl) (fun _ _ _ h => h) (by rfl) (fun wx => ?_) hS ?_
  rotate_left
  · go_simp; (try with_reducible rfl)
  try simp only [pts]
  refine wpG 6 ?_ rfl (by kernel_rfl) (fun _ _ _ h => h) (by rfl) (fun wx => ?_) hS ?_
  rotate_left
  · go_simp; (try with_reducible rfl)
  try simp only [pts]
  refine wpT 7 (.agg #[.int .i64 (y.rd (d * 3)), .int .i64 (y.rd (d * 3 + 1)), .int .i64 (y.rd (d * 3 + 2))]) rfl (by kernel_rfl) (fun _ _ _ h => h) (Or.inl ⟨by rfl, fun wx hSw => exec_load_mid 39 (.tmp 14) rfl gi (d * 3) rfl [.int .i64 (y.rd (d * 3)), .int .i64 (y.rd (d * 3 + 1)), .int .i64 (y.rd (d * 3 + 2))] _ (hSw.2.2.rdR hd4) Try.underlying39 rfl info3⟩) hS ?_
  try simp only [pts]
  refine wpAnyG_one (i := 8) rfl (by kernel_rfl) (fun K hK => ?_)
  go_simp
  (with_reducible refine (KS.out _ (Below.refl _ _).drew).mono ?_)
  rintro e w6 ⟨A', c', Ax, cx, rfl, hO6, hV6, hB6⟩
  have hS6 : Below W0.heap.size W0 w6 := (Below.refl W0.heap.size W0).drew.trans hB6
  clear hS
  have hS := SK.out _ hS6
  refine hK.out _ _ hS ?_
  clear hK K
  try simp only [pts]
  refine wpG 9 ?_ rfl (by kernel_rfl) (fun _ _ _ h => h) (by rfl) (fun wx => ?_) hS ?_
  rotate_left
  · go_simp; (try with_reducible rfl)
  try simp only [pts]
  refine wpG 10 ?_ rfl (by kernel_rfl) (fun _ _ _ h => h) (by rfl) (fun wx => ?_) hS ?_
  rotate_left
  · go_simp; (try with_reducible rfl)
  try simp only [pts]
  have hW0 := HM.out.lt
  have hw6 := HB.out.trans (hS6.mono HB.out.size)
  have hgc := Blk.lt HCB.out
  have hgi := Blk.lt HIB.out
  have hV6' : OwnI w6 w.heap.size Ax 3 cx [y.rd (d * 3), y.rd (d * 3 + 1), y.rd (d * 3 + 2)] := hV6.down (by show w.heap.size ≤ W0.heap.size; omega)
  have hne : ∀ ad, Ax = some ad → W0.heap.size ≤ ad.block := fun ad e => (hV6.2.2.2 ad e).2.1
  refine wpAnyG_one (i := 11) rfl (by kernel_rfl) (fun K hK => ?_)
  rw [if_pos (by rfl)]
  refine wp_store_row 45 (.tmp 6) (.tmp 17) rfl (w.heap.size + 1) _ zc _ rfl rfl (HZ.out.next hS6) (by rw [NA_size, HZS.out]) (by rw [NA_size]; exact infoNode) (NA_one _ _ _ _) (fun w9 hN9 hg9 => ?_)
  have hS9 : NB w9 w.heap.size n (.slice A m c) ∧ CB w9 gc x ∧ IB w9 gi y := ⟨Blk.grown hS.1 hg9 (by intro e; have := Option.some.inj e; omega), Blk.grown hS.2.1 hg9 (by intro e; have := Option.some.inj e; omega), Blk.grown hS.2.2 hg9 (by intro e; have := Option.some.inj e; omega)⟩
  refine hK.out _ _ hS9 ?_
  clear hK K
  try simp only [pts]
  refine wpAnyG_last rfl (by kernel_rfl) (by kernel_rfl) (by kernel_rfl) (fun K hK => ?_)
  rw [if_pos (by rfl)]
  refine wp_store_row 64 (.tmp 7) (.tmp 18) rfl (w.heap.size + 1 + 1) _ _ #[.int .i64 1, .int .i64 d, .int .i64 x.fr, .slice Ax 3 cx] rfl rfl ((HM.out.next hS6).grown hg9 (by intro e; have := Option.some.inj e; omega)) rfl infoMsg4 (by simp [Value.oneCell']) (fun w10 hM10 hg10 => ?_)
  refine hK.out _ _ ?_
  clear hK K
  try simp only [pts]
  go_wp2_with fail
  have hN10 := hN9.grown hg10 (by intro e; have := Option.some.inj e; omega)
  refine bodyPost_ret (results_two Try.results51 _ _ (w.heap.size + 1) (w.heap.size + 1 + 1) _ _ _ _ _ _ rfl rfl hN10 hM10 Try.underlying45 rfl (by rw [NA_size]; exact infoNode) Try.underlying64 rfl infoMsg4) rfl ?_
  exact ph_end (vs := [y.rd (d * 3), y.rd (d * 3 + 1), y.rd (d * 3 + 2)]) (by omega) (by omega) (by omega) (HZ.out.next hS6) (HM.out.next hS6) hO6 (by show w.heap.size ≤ W0.heap.size; omega) hw6 (Below.refl _ _) hg9 hg10 hV6' (fun ad e => by have := hne ad e; omega)
end Go.Proofs.Ytofeoeknmlkjgaa.Nk
end
