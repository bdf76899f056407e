/- The library's sort, told of a row of ints that the call owns. -/
import Derived.Test.YthokppghpmkbaaaShelf
import Derived.Test.YthokppghpmkbaaaKeys
import Derived.Sort.OwnSortedInts
namespace Go.Proofs.Ythokppghpmkbaaa.Ed
open Go Go.RowKit Go.Sort Go.Proofs.Ythokppghpmkbaaa.Mi Go.Proofs.YthokppghpmkbaaaW.PrintWords Go.Proofs.YthokppghpmkbaaaW.PrintLast

theorem sort_said : SortSaid := by
  intro g cap zs w base ok h hlen
  have ho := Kd.own_of_R h
  rcases ho.2 with ⟨h0, _⟩ | ⟨g', cap', cur, hv, hg, hb, hn, hcap, hsz, ht⟩
  · cases h0
  injection hv with hv1 _ hv2
  injection hv1 with hv1
  injection hv1 with hv1
  subst hv1 hv2
  have hlt : g < w.heap.size := (Array.getElem?_eq_some_iff.1 hb).1
  have hH : Holds (Value.int .i64) w g 0 zs.toArray := holds_of_blockI hb (by simpa [encs] using ht)
  refine (Try.slices_Sort_int g 0 cap zs w hH hlt hlen).mono ?_
  rintro e w' ⟨rfl, nn, os, rfl⟩
  refine ⟨rfl, ?_, grownBy_sortedI _⟩
  have h1 := ownsRow_sortedI (n := nn) (os := os) (e := 3) (ts := sortI zs) (sortI_length zs) hg hb hn hcap hsz
  refine Kd.R_of_own ?_ (fun k hk => h.1 k hk)
  rw [sortI_length]
  exact h1
#print axioms sort_said
end Go.Proofs.Ythokppghpmkbaaa.Ed
