/- Layer 19's laws: whatever equations come and go (EdgesDo): the walk. -/
import Derived.Test.YthokppghpmkbaaaLaw19e
import Derived.Deep.DeepCutAuto
import Derived.Deep.DeepMust
import Derived.BigRegion
namespace Go.Proofs.Ythokppghpmkbaaa.Pl
open Go Go.RowKit Go.Proofs.Ythokppghpmkbaaa.Mi Go.Proofs.Ythokppghpmkbaaa.Ed Go.Proofs.Ythokppghpmkbaaa.PR Go.Proofs.YthokppghpmkbaaaW.PrintWords Go.Proofs.YthokppghpmkbaaaW.PrintLast
open Go.Proofs.YthokppghpmkbaaaW.PrintMore
set_option linter.unusedVariables false
set_option linter.unusedSimpArgs false
attribute [local go_sem] max2_int min2_int max_two min_two

/-! ### an act -/
structure ActS where
  f0 : Int
  f1 : Int
  f2 : List Int
def zAct : ActS := ⟨0, 0, []⟩
def kAct : Kd ActS := Kd.iso (Kd.pair (Kd.int .i64) (Kd.pair (Kd.int .i64) (Kd.slice 3 (Kd.int .i64)))) (fun x : ActS => (x.f0, x.f1, x.f2))
theorem kAct_open {w : World} {x : ActS} {cs : List Value} (h : kAct.K w x cs) : ∃ A2 c2, cs = [.int .i64 x.f0, .int .i64 x.f1, .slice A2 x.f2.length c2] ∧ x.f2.length ≤ c2 ∧ (Kd.int .i64).C w A2 x.f2.length x.f2 := by
  obtain ⟨_, _, rfl, rfl, _, _, rfl, rfl, ⟨A1, c1, rfl, l1, g1⟩⟩ := h
  exact ⟨A1, c1, rfl, l1, g1⟩
def rdAct (xs : List ActS) (i : Int) : ActS := xs.getD i.toNat zAct
theorem atAct {w : World} {A : Option Addr} {n : Nat} {xs : List ActS} (h : Kd.C kAct w A n xs) (i : Int) (h0 : 0 ≤ i) (h1 : i < n) : ∃ ad A2 c2, A = some ad ∧ w.cell? (ad.add (i.toNat * 3)) = some (.int .i64 (rdAct xs i).f0) ∧ w.cell? ⟨(ad.add (i.toNat * 3)).block, (ad.add (i.toNat * 3)).off + 1, none⟩ = some (.int .i64 (rdAct xs i).f1) ∧
    w.cell? ⟨(ad.add (i.toNat * 3)).block, (ad.add (i.toNat * 3)).off + 2, none⟩ = some (.slice A2 (rdAct xs i).f2.length c2) ∧ (rdAct xs i).f2.length ≤ c2 ∧ (Kd.int .i64).C w A2 (rdAct xs i).f2.length (rdAct xs i).f2 := by
  obtain ⟨ad, c, e, _, hK, hc0⟩ := Kd.C_get h zAct i h0 h1
  have hc : ∀ j u, c[j]? = some u → w.cell? (ad.add (i.toNat * 3 + j)) = some u := hc0
  obtain ⟨A1, c1, rfl, l1, g1⟩ := kAct_open hK
  exact ⟨ad, A1, c1, e, hc 0 _ rfl, by rw [← add_field _ _ 1 (by omega)]; exact hc 1 _ rfl, by rw [← add_field _ _ 2 (by omega)]; exact hc 2 _ rfl, l1, g1⟩

/-! ### where the law stands -/
/-- Behind n acts: the graph and the document's list hold the same; they lie apart. -/
structure St (w wr : World) (g : Nat) (G P : Nat → Prop) (l : List Eqn) (R : Eqs) (peak : Int) (A : Option Addr) (c n : Nat) : Prop where
  gr : IsGr wr g G R peak
  fp : Kd.F kE wr P A l.length l
  le : l.length ≤ c
  sim : Sim l R
  dis : ∀ k, P k → ¬ G k
  gG : ∀ k, G k → w.heap.size ≤ k
  bel : Below w.heap.size w wr
  tot : total R ≤ 30 * n
  cnt : l.length ≤ n
  pk : (total R : Int) ≤ peak
section
variable {w wr w1 w2 : World} {g : Nat} {G P : Nat → Prop} {l : List Eqn} {R : Eqs} {peak : Int} {A : Option Addr} {c n : Nat}
theorem St.to (h : St w wr g G P l R peak A c n) (hb : Below wr.heap.size wr w1) : St w w1 g G P l R peak A c n :=
  ⟨IsGr.bel h.gr hb, Kd.F_below h.fp hb, h.le, h.sim, h.dis, h.gG, below_step h.bel hb, h.tot, h.cnt, h.pk⟩
theorem St.sm (h : St w wr g G P l R peak A c n) (hn : n ≤ 150) : Sm R := ⟨by have := h.tot; omega, by have := h.cnt; have := h.sim.length; omega⟩
theorem St.big (h : St w wr g G P l R peak A c n) (hn : n ≤ 150) : l.length ≤ BIG := by have := h.cnt; unfold BIG; omega
theorem St.rows (h : St w wr g G P l R peak A c n) (hn : n ≤ 150) : ∀ q ∈ l, q.f1.length ≤ BIG := fun q hq => by have := rest_le h.sim q hq; have := h.tot; unfold BIG; omega
theorem St.next (h : St w wr g G P l R peak A c n) : St w wr g G P l R (max peak (total R)) A c (n + 1) := by
  have hm : max peak (total R : Int) = peak := by have := h.pk; omega
  rw [hm]
  exact ⟨h.gr, h.fp, h.le, h.sim, h.dis, h.gG, h.bel, by have := h.tot; omega, by have := h.cnt; omega, h.pk⟩
theorem St.bnd (h : St w wr g G P l R peak A c n) : St w wr g (fun k => G k ∧ k < wr.heap.size) (fun k => P k ∧ k < wr.heap.size) l R peak A c n :=
  ⟨h.gr.bound, Kd.F_bound h.fp, h.le, h.sim, fun k hp hg => h.dis k hp.1 hg.1, fun k hk => h.gG k hk.1, h.bel, h.tot, h.cnt, h.pk⟩
/-- A turn of both: first the document's list is told anew, then the graph turns. -/
theorem St.turn {l1 : List Eqn} {R1 : Eqs} {v : Value} {b : Nat} {P2 G2 Gx : Nat → Prop} {p1 : Int} (h : St w wr g G P l R peak A c n) (hV : Kd.V kE tE w1 b P2 v l1) (hb : Below wr.heap.size wr w1)
    (hI : IsGr w2 g G2 R1 p1) (hF : Fr w1 w2 Gx) (hx : ∀ k, Gx k → G2 k) (hd : ∀ k, P2 k → k < w1.heap.size → ¬ G2 k) (hG : ∀ k, G2 k → w.heap.size ≤ k) (hs : Sim l1 R1) (hp : p1 = max peak (total R1)) (ht : total R1 ≤ 30 * (n + 1)) (hc : l1.length ≤ n + 1) :
    ∃ A1 c1 G1 P1, v = .slice A1 l1.length c1 ∧ St w w2 g G1 P1 l1 R1 (max peak (total R1)) A1 c1 (n + 1) := by
  obtain ⟨A1, c1, rfl, hle, hf⟩ := hV
  refine ⟨A1, c1, G2, fun k => P2 k ∧ k < w1.heap.size, rfl, hp ▸ hI, Kd.F_step (Kd.F_bound hf) (fun k hk hlt => hF.block k hlt (fun hg => hd k hk.1 hk.2 (hx k hg))), hle, hs, fun k hk => hd k hk.1 hk.2, hG, ?_, ht, hc, by omega⟩
  have h1 : Fr w w2 (fun k => w.heap.size ≤ k) := (((Fr.refl w _).below h.bel).below hb).trans hF (fun k hk => .inl (hG k (hx k hk)))
  exact h1.to_below (fun k hk => hk) (Nat.le_refl _)
end
end Go.Proofs.Ythokppghpmkbaaa.Pl
