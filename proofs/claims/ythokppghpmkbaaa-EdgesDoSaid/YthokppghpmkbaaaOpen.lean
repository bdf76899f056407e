/- What came in, in kinds: an input's datum, opened, is read as the kind's values. -/
import Derived.Test.YthokppghpmkbaaaWMore
import Derived.Deep.Slices
import Derived.ChangeSame
import Derived.SizedLaws
namespace Go.Proofs.Ythokppghpmkbaaa.Op
open Go Go.RowKit Go.ChangeShapes Go.Deep Go.Proofs.YthokppghpmkbaaaW.PrintWords Go.Proofs.YthokppghpmkbaaaW.PrintLast
set_option linter.unusedVariables false

/-- Whatever a datum of type t is read from holds a value of the kind d; g: what is known of it. -/
def Opn {α : Type} (P : Program) (d : Kd α) (t : TypeId) (g : α → Prop) : Prop :=
  ∀ {H : Type} {enc : TypeId × Value → H} {w : World} {base : Nat} {spare : Nat → Bool} {held : Bool} {fuel : Nat} {cs : List Value} {x : DataW H × List MemPlace},
    DataW.trod enc P w base spare held fuel t cs = some x → ∃ a, d.K w a cs ∧ g a
section
variable {P : Program} {t e : TypeId}
theorem Opn.int {k : IntKind} (ht : P.underlying t = some (.int k)) : Opn P (Kd.int k) t (fun n => (Lit.int k n).wf = true) := by
  intro H enc w base spare held fuel cs x h
  obtain ⟨n, rfl, _, hw⟩ := DataW.trod_int ht h
  exact ⟨n, rfl, hw⟩
theorem Opn.bool (ht : P.underlying t = some .bool) : Opn P Kd.bool t (fun _ => True) := by
  intro H enc w base spare held fuel cs x h
  obtain ⟨n, rfl, _⟩ := DataW.trod_bool ht h
  exact ⟨n, rfl, trivial⟩
theorem Opn.string (ht : P.underlying t = some .string) : Opn P Kd.string t (fun s => s.size ≤ maxLen) := by
  intro H enc w base spare held fuel cs x h
  obtain ⟨n, rfl, _, hn⟩ := DataW.trod_string ht h
  exact ⟨n, rfl, hn⟩
theorem Opn.imp {α : Type} {d : Kd α} {g g' : α → Prop} (h : Opn P d t g) (hg : ∀ a, g a → g' a) : Opn P d t g' := by
  intro H enc w base spare held fuel cs x hx
  obtain ⟨a, h1, h2⟩ := h hx
  exact ⟨a, h1, hg a h2⟩
theorem Opn.iso {α β : Type} {d : Kd α} {g : α → Prop} (h : Opn P d t g) (f : β → α) (f' : α → β) (hf : ∀ a, f (f' a) = a) : Opn P (Kd.iso d f) t (fun b => g (f b)) := by
  intro H enc w base spare held fuel cs x hx
  obtain ⟨a, h1, h2⟩ := h hx
  exact ⟨f' a, by show d.K w (f (f' a)) cs; rw [hf]; exact h1, by show g (f (f' a)); rw [hf]; exact h2⟩
theorem Opn.slice {α : Type} {d : Kd α} {g : α → Prop} (q : Nat) (ht : P.underlying t = some (.slice e)) (hc : P.cellsOf e = d.sz) (h : Opn P d e g) : Opn P (Kd.slice q d) t (fun l => ∀ a ∈ l, g a) := by
  intro H enc w base spare held fuel cs x hx
  rcases open_slice ht hx with ⟨rfl, _⟩ | ⟨a, len, cap, m, n, D, Pl, rfl, hb, hl, hm, hmm, _, hi⟩
  · exact ⟨[], ⟨none, 0, rfl, Nat.le_refl _, Kd.C_nil d w⟩, by simp⟩
  · have hlm : len ≤ m := by rw [hmm]; split <;> omega
    rcases Nat.eq_zero_or_pos len with rfl | hpos
    · exact ⟨[], ⟨some a, cap, rfl, Nat.zero_le _, rfl, by simp, fun h => absurd h (Nat.lt_irrefl 0)⟩, by simp⟩
    obtain ⟨cs0, _, t0⟩ := hi 0 (by omega)
    obtain ⟨a0, _, _⟩ := h t0
    haveI : Inhabited (α × List Value) := ⟨(a0, [])⟩
    obtain ⟨V, hV⟩ := choose_lt (n := len) (p := fun i (v : α × List Value) => w.cells? base (a.add (i * P.cellsOf e)) (P.cellsOf e) = some v.2 ∧ d.K w v.1 v.2 ∧ g v.1) (fun i hi' => by
      obtain ⟨cs', h1, h2⟩ := hi i (by omega)
      obtain ⟨a', h3, h4⟩ := h h2
      exact ⟨(a', cs'), h1, h3, h4⟩)
    have hz : ∀ (j : Nat) p, ((List.range len).map fun i => (V i).1)[j]? = some p → j < len ∧ p = (V j).1 := fun j p hj => by
      rw [List.getElem?_map] at hj
      obtain ⟨i, h1, h2⟩ := Option.map_eq_some_iff.1 hj
      obtain ⟨hlt, h3⟩ := List.getElem?_eq_some_iff.1 h1
      rw [List.length_range] at hlt
      rw [List.getElem_range] at h3
      subst h3
      exact ⟨hlt, h2.symm⟩
    have hlen : ((List.range len).map fun i => (V i).1).length = len := by rw [List.length_map, List.length_range]
    refine ⟨(List.range len).map fun i => (V i).1, ⟨some a, cap, by rw [hlen], by rw [hlen]; exact hl, hlen.symm ▸ ⟨hlen, ?_, fun _ => ⟨a, rfl, fun j p hj => ?_⟩⟩⟩, fun x hx => ?_⟩
    · unfold maxLen at hm; omega
    · obtain ⟨hj', rfl⟩ := hz j p hj
      obtain ⟨h1, h2, _⟩ := hV j hj'
      rw [hc] at h1
      obtain ⟨_, h3, h4⟩ := World.cells?_some h1
      refine ⟨(V j).2, h3, h2, fun i u hu => ?_⟩
      have hi2 : i < d.sz := by rw [← h3]; exact (List.getElem?_eq_some_iff.1 hu).1
      have := h4 i hi2
      rw [hu] at this
      rw [← this, Deep.add_add]
    · obtain ⟨i, hi, rfl⟩ := List.mem_map.1 hx
      exact (hV i (List.mem_range.1 hi)).2.2
/-- A struct's fields, one by one. -/
theorem Opn.field {α : Type} {d : Kd α} {g : α → Prop} {fs : Array Field} {i : Nat} {f : Field} (hf : fs[i]? = some f) (hc : P.cellsOf f.type = d.sz) (h : Opn P d f.type g)
    {H : Type} {enc : TypeId × Value → H} {w : World} {base : Nat} {spare : Nat → Bool} {held : Bool} {fuel : Nat} {cs : List Value} {x : DataW H × List MemPlace} (ht : P.underlying t = some (.struct fs))
    (hx : DataW.trod enc P w base spare held fuel t cs = some x) : ∃ a, d.K w a ((cs.drop f.offset).take d.sz) ∧ g a := by
  obtain ⟨xs, n, _, _, _, hl, hh⟩ := DataW.trod_struct ht hx
  have h1 := hh i f hf
  have hi : i < xs.length := by rw [hl]; exact (Array.getElem?_eq_some_iff.1 hf).1
  rw [List.getElem?_eq_getElem hi, hc] at h1
  exact h h1
theorem Opn.len {fs : Array Field} {H : Type} {enc : TypeId × Value → H} {w : World} {base : Nat} {spare : Nat → Bool} {held : Bool} {fuel : Nat} {cs : List Value} {x : DataW H × List MemPlace} (ht : P.underlying t = some (.struct fs))
    (hx : DataW.trod enc P w base spare held fuel t cs = some x) : cs.length = P.cellsOf t := by
  obtain ⟨xs, n, _, _, h, _, _⟩ := DataW.trod_struct ht hx
  exact h
theorem take_drop {α : Type} (l : List α) (n m : Nat) : l.drop n = (l.drop n).take m ++ l.drop (n + m) := by rw [← List.drop_drop, List.take_append_drop]
theorem Opn.struct2 {α β : Type} {d0 : Kd α} {d1 : Kd β} {g0 : α → Prop} {g1 : β → Prop} {f0 f1 : Field} (ht : P.underlying t = some (.struct #[f0, f1])) (hc : P.cellsOf t = d0.sz + d1.sz)
    (o0 : f0.offset = 0) (o1 : f1.offset = d0.sz) (c0 : P.cellsOf f0.type = d0.sz) (c1 : P.cellsOf f1.type = d1.sz) (h0 : Opn P d0 f0.type g0) (h1 : Opn P d1 f1.type g1) :
    Opn P (Kd.pair d0 d1) t (fun x => g0 x.1 ∧ g1 x.2) := by
  intro H enc w base spare held fuel cs x hx
  obtain ⟨a, k0, p0⟩ := Opn.field (i := 0) rfl c0 h0 ht hx
  obtain ⟨b, k1, p1⟩ := Opn.field (i := 1) rfl c1 h1 ht hx
  have hl := Opn.len ht hx
  refine ⟨(a, b), ⟨_, _, ?_, k0, k1⟩, p0, p1⟩
  rw [o0, o1, List.drop_zero]
  have e1 := take_drop cs 0 d0.sz
  have e2 := take_drop cs d0.sz d1.sz
  rw [List.drop_eq_nil_of_le (i := d0.sz + d1.sz) (by omega), List.append_nil] at e2
  rw [List.drop_zero, Nat.zero_add] at e1
  rw [← e2, ← e1]
theorem Opn.struct3 {α β γ : Type} {d0 : Kd α} {d1 : Kd β} {d2 : Kd γ} {g0 : α → Prop} {g1 : β → Prop} {g2 : γ → Prop} {f0 f1 f2 : Field} (ht : P.underlying t = some (.struct #[f0, f1, f2])) (hc : P.cellsOf t = d0.sz + d1.sz + d2.sz)
    (o0 : f0.offset = 0) (o1 : f1.offset = d0.sz) (o2 : f2.offset = d0.sz + d1.sz) (c0 : P.cellsOf f0.type = d0.sz) (c1 : P.cellsOf f1.type = d1.sz) (c2 : P.cellsOf f2.type = d2.sz) (h0 : Opn P d0 f0.type g0) (h1 : Opn P d1 f1.type g1) (h2 : Opn P d2 f2.type g2) :
    Opn P (Kd.pair d0 (Kd.pair d1 d2)) t (fun x => g0 x.1 ∧ g1 x.2.1 ∧ g2 x.2.2) := by
  intro H enc w base spare held fuel cs x hx
  obtain ⟨a, k0, p0⟩ := Opn.field (i := 0) rfl c0 h0 ht hx
  obtain ⟨b, k1, p1⟩ := Opn.field (i := 1) rfl c1 h1 ht hx
  obtain ⟨c, k2, p2⟩ := Opn.field (i := 2) rfl c2 h2 ht hx
  have hl := Opn.len ht hx
  refine ⟨(a, b, c), ⟨_, _, ?_, k0, _, _, rfl, k1, k2⟩, p0, p1, p2⟩
  rw [o0, o1, o2, List.drop_zero]
  have e1 := take_drop cs 0 d0.sz
  have e2 := take_drop cs d0.sz d1.sz
  have e3 := take_drop cs (d0.sz + d1.sz) d2.sz
  rw [List.drop_eq_nil_of_le (i := d0.sz + d1.sz + d2.sz) (by omega), List.append_nil] at e3
  rw [List.drop_zero, Nat.zero_add] at e1
  rw [← e3, ← e2, ← e1]
theorem Opn.struct4 {α β γ δ : Type} {d0 : Kd α} {d1 : Kd β} {d2 : Kd γ} {d3 : Kd δ} {g0 : α → Prop} {g1 : β → Prop} {g2 : γ → Prop} {g3 : δ → Prop} {f0 f1 f2 f3 : Field} (ht : P.underlying t = some (.struct #[f0, f1, f2, f3])) (hc : P.cellsOf t = d0.sz + d1.sz + d2.sz + d3.sz)
    (o0 : f0.offset = 0) (o1 : f1.offset = d0.sz) (o2 : f2.offset = d0.sz + d1.sz) (o3 : f3.offset = d0.sz + d1.sz + d2.sz) (c0 : P.cellsOf f0.type = d0.sz) (c1 : P.cellsOf f1.type = d1.sz) (c2 : P.cellsOf f2.type = d2.sz) (c3 : P.cellsOf f3.type = d3.sz) (h0 : Opn P d0 f0.type g0) (h1 : Opn P d1 f1.type g1) (h2 : Opn P d2 f2.type g2) (h3 : Opn P d3 f3.type g3) :
    Opn P (Kd.pair d0 (Kd.pair d1 (Kd.pair d2 d3))) t (fun x => g0 x.1 ∧ g1 x.2.1 ∧ g2 x.2.2.1 ∧ g3 x.2.2.2) := by
  intro H enc w base spare held fuel cs x hx
  obtain ⟨a, k0, p0⟩ := Opn.field (i := 0) rfl c0 h0 ht hx
  obtain ⟨b, k1, p1⟩ := Opn.field (i := 1) rfl c1 h1 ht hx
  obtain ⟨c, k2, p2⟩ := Opn.field (i := 2) rfl c2 h2 ht hx
  obtain ⟨d, k3, p3⟩ := Opn.field (i := 3) rfl c3 h3 ht hx
  have hl := Opn.len ht hx
  refine ⟨(a, b, c, d), ⟨_, _, ?_, k0, _, _, rfl, k1, _, _, rfl, k2, k3⟩, p0, p1, p2, p3⟩
  rw [o0, o1, o2, o3, List.drop_zero]
  have e1 := take_drop cs 0 d0.sz
  have e2 := take_drop cs d0.sz d1.sz
  have e3 := take_drop cs (d0.sz + d1.sz) d2.sz
  have e4 := take_drop cs (d0.sz + d1.sz + d2.sz) d3.sz
  rw [List.drop_eq_nil_of_le (i := d0.sz + d1.sz + d2.sz + d3.sz) (by omega), List.append_nil] at e4
  rw [List.drop_zero, Nat.zero_add] at e1
  rw [← e4, ← e3, ← e2, ← e1]
/-- An argument that is a slice. -/
theorem Opn.arg {α : Type} {d : Kd α} {g : α → Prop} {q : Nat} (ht : P.underlying t = some (.slice e)) (h : Opn P (Kd.slice q d) t (fun l => ∀ a ∈ l, g a))
    {H : Type} {enc : TypeId × Value → H} {w : World} {base : Nat} {spare : Nat → Bool} {held : Bool} {a : Option Addr} {len cap : Nat} {D : DataW H} {ps : List MemPlace}
    (hx : DataW.Trod enc P w base spare held t (.slice a len cap) D ps) : ∃ l : List α, len = l.length ∧ l.length ≤ cap ∧ d.C w a l.length l ∧ ∀ x ∈ l, g x := by
  obtain ⟨fuel, hf⟩ := hx
  obtain ⟨l, ⟨A, c, e1, h1, h2⟩, h3⟩ := h hf
  simp [Value.cells] at e1
  obtain ⟨rfl, rfl, rfl⟩ := e1
  exact ⟨l, rfl, h1, h2, h3⟩
end
end Go.Proofs.Ythokppghpmkbaaa.Op
