/- The walk of BusMemory. -/
import Derived.Test.YtdlcjieaoalhoaaStayBus
import Derived.Test.YtdlcjieaoalhoaaBusNo
import Derived.Test.YtdlcjieaoalhoaaBusIn
import Derived.Test.YtdlcjieaoalhoaaBusRuns
import Derived.Test.YtdlcjieaoalhoaaBusSortN
import Derived.Test.YtdlcjieaoalhoaaKit2
import Derived.BigGuard
set_option linter.unusedVariables false
namespace Go.Proofs.Ytdlcjieaoalhoaa.Bs
open Go.RowKit Go.Proofs.Ytdlcjieaoalhoaa Crc Sm Rb

/-- a bus is answered and stored -/
def NCut (Y : World) (s18 s19 : Value) (wx : World) : Prop :=
  ∃ (q : Nat) (now ser er : Int) (A : Option Addr) (n c : Nat) (L : List Pc), s18 = .pointer (some ⟨q, 0, none⟩) ∧ s19 = .int .i64 er ∧ Blk wx q 25 #[.int .i64 now, .int .i64 ser, .slice A n c] ∧ QO wx Y.heap.size (.slice A n c) L ∧ L.length = n ∧ n ≤ 1000 ∧ Below Y.heap.size Y wx ∧ Y.heap.size ≤ q
/-- Step: the bus, and what came -/
def SCut (Y : World) (s15 s16 s17 : Value) (wx : World) : Prop :=
  ∃ (q : Nat) (now ser er : Int) (A : Option Addr) (n c : Nat) (L : List Pc) (A3 : Option Addr) (n3 c3 : Nat) (M : List Pc), s15 = .pointer (some ⟨q, 0, none⟩) ∧ s16 = .slice A3 n3 c3 ∧ s17 = .int .i64 er ∧ Blk wx q 25 #[.int .i64 now, .int .i64 ser, .slice A n c] ∧ QO wx Y.heap.size (.slice A n c) L ∧ L.length = n ∧ n ≤ 1000 ∧
    QO wx Y.heap.size (.slice A3 n3 c3) M ∧ M.length = n3 ∧ n3 ≤ 1000 ∧ Below Y.heap.size Y wx ∧ Y.heap.size ≤ q
def SAns (w : World) (e : Ending) (w' : World) : Prop :=
  ∃ (now ser er : Int) (A : Option Addr) (n c : Nat) (L : List Pc) (A3 : Option Addr) (n3 c3 : Nat) (M : List Pc), e = .returned (.tuple #[.agg #[.int .i64 now, .int .i64 ser, .slice A n c], .slice A3 n3 c3, .int .i64 er]) ∧ QO w' w.heap.size (.slice A n c) L ∧ L.length = n ∧ n ≤ 1000 ∧ QO w' w.heap.size (.slice A3 n3 c3) M ∧ M.length = n3 ∧ n3 ≤ 1000 ∧ Below w.heap.size w w'
theorem Step_all (ser t : Int) (A : Option Addr) (n c : Nat) (L : List Pc) (w : World) (h : QR w A n c L) (hn : n ≤ 400) (ht : 0 ≤ t) (ht2 : t ≤ 1099511627776) :
    Calls Try.prog 10 #[.agg #[.int .i64 0, .int .i64 ser, .slice A n c], .int .i64 t] w (SAns w) := by
  refine (Step_any (fun _ M => InOrder M) 0 ser t A n c L w h hn ht ht2 (fun M hM => sortsN M (by omega))).mono fun e w' hp => ?_
  obtain ⟨A2, n2, c2, A3, n3, c3, L', M, he, hk, hq, h2, hq3, h3, hperm, _, hb⟩ := hp
  have hl : L'.length = n := by have := congrArg List.length hk; simpa [h.1] using this
  have hf := List.length_filter_le (fun p => !dueBy t p) L'
  have hg := List.length_filter_le (dueBy t) L'
  have hm := hperm.length_eq
  exact ⟨t, ser, 0, A2, n2, c2, _, A3, n3, c3, M, he, hq, h2.symm, by omega, hq3, h3.symm, by omega, hb⟩
theorem RoomyBus.next {w w' : World} {B n g c : Nat} {L : List Pc} {gs cs : Nat → Nat} (h : RoomyBus w B L n g c gs cs) (hb : Below w.heap.size w w') : RoomyBus w' B L n g c gs cs :=
  ⟨h.1, h.2.1, own_below h.2.2.1 hb (fun z hz => (h.2.2.1.lt z hz).2), fun j p hj hp => (h.2.2.2 j p hj hp).next hb⟩
theorem RoomyBus.qr {w w0 : World} {B n g c cc : Nat} {A : Option Addr} {L : List Pc} {gs cs : Nat → Nat} (h : RoomyBus w B L n g c gs cs) (hL : QR w0 A n cc L) : QR w (some ⟨g, 0, none⟩) n c (rbL L gs cs n) := by
  obtain ⟨h1, h2, h3, h4⟩ := h
  have hl : n ≤ L.length := by rw [hL.1]; exact Nat.le_refl _
  refine ⟨rbL_len n hl, (fun e => by cases e), fun hn => ⟨g, 0, rfl, (h3.lt g rfl).2, fun j u hu => ?_⟩, fun y hy => ?_⟩
  · have hj : j < n * 5 := by
      have := (List.getElem?_eq_some_iff.1 hu).1
      rwa [flat_len, rbL_len n hl] at this
    rw [Nat.zero_add, h3.cellAt j (by omega), List.getElem?_append_left (by rw [flat_len, rbL_len n hl]; exact hj)]
    exact hu
  · obtain ⟨j, p, hj, hp, rfl⟩ := rbL_mem n hy
    obtain ⟨k1, k2, cur, k3, k4⟩ := h4 j p hj hp
    have hr := hL.2.2.2 p (List.mem_of_getElem? hp)
    exact ⟨k4.ints hr.1.1 k3, (fun e => by cases e), hr.2.2⟩
theorem QW.put {w : World} {base top g : Nat} {v : Value} {L : List Pc} {cur : Array Value} (h : QW w base top v L) (hk : Blk w g 5 cur) (j : Nat) (u : Value) : QW (w.setCell ⟨g, j, none⟩ u) base top v L := by
  refine ⟨?_, fun p hp => ?_, h.len, h.ap, h.bq, h.bp⟩
  · obtain ⟨xs, h1, h2⟩ := h.row
    exact ⟨xs, own_kept_t h1 (grown_set w g j u) hk (by decide), h2⟩
  · obtain ⟨ys, h1⟩ := h.own p hp
    exact own_any_set h1 g j u
/-- while what came is overwritten -/
def PIn (Y3 : World) (lo top q15 : Nat) (cb : Array Value) (vu vp : Value) (Lu M : List Pc) (W : World) : Prop :=
  Same Y3 (fun k => lo ≤ k ∧ k < top) W ∧ Blk W q15 25 cb ∧ QW W lo top vu Lu ∧ QW W lo top vp M
theorem PIn.put {Y3 W : World} {lo top q15 g j : Nat} {cb : Array Value} {vu vp : Value} {Lu M : List Pc} {p : Pc} {ys : List Value} (h : PIn Y3 lo top q15 cb vu vp Lu M W) (hp : p ∈ M) (hA : p.A = some ⟨g, 0, none⟩) (hy : W.ownsRow lo 5 1 p.sl p.n ys) (u : Value) :
    PIn Y3 lo top q15 cb vu vp Lu M (W.setCell ⟨g, j, none⟩ u) := by
  obtain ⟨h1, h2, h3, h4⟩ := h
  have hb : p.sl.ownBlock = some g := by unfold Pc.sl; rw [hA]; rfl
  unfold Pc.sl at hy
  rw [hA] at hy
  obtain ⟨cur, hk, _⟩ := own_blk hy
  refine ⟨h1.grown (grown_set W g j u) (fun k e _ => by cases e; exact ⟨(hy.lt g rfl).1, h4.bp p hp g hb⟩), h2.grown (grown_set W g j u) (fun e => ?_), h3.put hk j u, h4.put hk j u⟩
  have e : q15 = g := Option.some.inj e
  subst e
  have h5 : W.heap[q15]? = _ := h2
  rw [show W.heap[q15]? = _ from hk] at h5
  injection h5 with h5; injection h5 with _ h5
  exact absurd h5 (by decide)
end Go.Proofs.Ytdlcjieaoalhoaa.Bs
