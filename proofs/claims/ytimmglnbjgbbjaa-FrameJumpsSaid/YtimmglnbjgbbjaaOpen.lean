/- How an argument that can be read as data is read by a kind: structs, arrays, slices of whole numbers and of such. No conditions. -/
import Derived.Test.YtimmglnbjgbbjaaBase
import Derived.Test.YtimmglnbjgbbjaaWArr
import Derived.Deep.Slices
import Derived.OpenShut
import Derived.ProofKit
namespace Go.Proofs.Ytimmglnbjgbbjaa
open Go.RowKit Go.Proofs.YtimmglnbjgbbjaaW.PrintWords
/-- Whatever is read at a type is of a kind, and ok. -/
def Opens {α : Type} (P : Program) (t : TypeId) (d : Kd α) (ok : α → Prop) : Prop :=
  ∀ {H : Type} (enc : TypeId × Value → H) (w : World) (base : Nat) (spare : Nat → Bool) (held : Bool) (fuel : Nat) (cs : List Value) (x : DataW H × List MemPlace),
    DataW.trod enc P w base spare held fuel t cs = some x → ∃ a, d.K w a cs ∧ ok a
/-- The fields from one on. -/
def OpensF {α : Type} (P : Program) (fs : List Field) (off N : Nat) (d : Kd α) (ok : α → Prop) : Prop :=
  ∀ {H : Type} (enc : TypeId × Value → H) (w : World) (base : Nat) (spare : Nat → Bool) (held : Bool) (m : Nat) (cs : List Value), cs.length = N →
    (∀ f ∈ fs, ∃ y, DataW.trod enc P w base spare held m f.type ((cs.drop f.offset).take (P.cellsOf f.type)) = some y) → ∃ a, d.K w a (cs.drop off) ∧ ok a
section
variable {α β : Type} {P : Program} {t e : TypeId} {d : Kd α} {d2 : Kd β} {ok : α → Prop} {ok2 : β → Prop}
theorem Opens.mono {ok' : α → Prop} (h : Opens P t d ok) (hi : ∀ a, ok a → ok' a) : Opens P t d ok' := fun enc w base spare held fuel cs x hx => by
  obtain ⟨a, h1, h2⟩ := h enc w base spare held fuel cs x hx
  exact ⟨a, h1, hi a h2⟩
theorem opens_int {k : IntKind} (ht : P.underlying t = some (.int k)) : Opens P t (Kd.int k) (fun n => (Lit.int k n).wf = true) := fun enc w base spare held fuel cs x hx => by
  obtain ⟨n, h1, _, h3⟩ := DataW.trod_int ht hx
  exact ⟨n, h1, h3⟩
theorem opens_bool (ht : P.underlying t = some .bool) : Opens P t Kd.bool (fun _ => True) := fun enc w base spare held fuel cs x hx => by
  obtain ⟨b, h1, _⟩ := DataW.trod_bool ht hx
  exact ⟨b, h1, trivial⟩
theorem opens_iso (f : β → α) (g : α → β) (hfg : ∀ a, f (g a) = a) (h : Opens P t d ok) : Opens P t (Kd.iso d f) (fun b => ok (f b)) := fun enc w base spare held fuel cs x hx => by
  obtain ⟨a, h1, h2⟩ := h enc w base spare held fuel cs x hx
  exact ⟨g a, (show d.K w (f (g a)) cs by rw [hfg]; exact h1), (show ok (f (g a)) by rw [hfg]; exact h2)⟩
theorem reads_of {w : World} {A : Option Addr} {n : Nat} (D : Nat → α → Prop) (hn : n ≤ 9223372036854775807)
    (h : ∀ i, i < n → ∃ a, (∃ ad c, A = some ad ∧ c.length = d.sz ∧ d.K w a c ∧ ∀ j u, c[j]? = some u → w.cell? (ad.add (i * d.sz + j)) = some u) ∧ D i a) : ∃ xs : List α, Kd.C d w A n xs ∧ xs.length = n ∧ ∀ i x, xs[i]? = some x → D i x := by
  have hc : ∀ m, m ≤ n → ∃ xs : List α, xs.length = m ∧ ∀ i x, xs[i]? = some x → (∃ ad c, A = some ad ∧ c.length = d.sz ∧ d.K w x c ∧ ∀ j u, c[j]? = some u → w.cell? (ad.add (i * d.sz + j)) = some u) ∧ D i x := by
    intro m
    induction m with
    | zero => exact fun _ => ⟨[], rfl, fun i x hx => by simp at hx⟩
    | succ m ih =>
      intro hm
      obtain ⟨xs, hl, hx⟩ := ih (by omega)
      obtain ⟨a, ha, hD⟩ := h m (by omega)
      refine ⟨xs ++ [a], by simp [hl], fun i x hi => ?_⟩
      rcases Nat.lt_or_ge i xs.length with hlt | hge
      · rw [List.getElem?_append_left hlt] at hi
        exact hx i x hi
      · have hil : i < (xs ++ [a]).length := (List.getElem?_eq_some_iff.1 hi).1
        have e : i = m := by simp at hil; omega
        subst e
        rw [List.getElem?_append_right (by omega), hl, Nat.sub_self] at hi
        obtain rfl : a = x := by simpa using hi
        exact ⟨ha, hD⟩
  obtain ⟨xs, hl, hx⟩ := hc n (Nat.le_refl _)
  refine ⟨xs, ⟨hl, hn, fun h0 => ?_⟩, hl, fun i x hi => (hx i x hi).2⟩
  obtain ⟨⟨ad, c, hA, -, -, -⟩, -⟩ := hx 0 xs[0] (List.getElem?_eq_getElem (by omega))
  refine ⟨ad, hA, fun j p hp => ?_⟩
  obtain ⟨⟨ad', c, hA', h1, h2, h3⟩, -⟩ := hx j p hp
  obtain rfl : ad = ad' := Option.some.inj (hA.symm.trans hA')
  exact ⟨c, h1, h2, h3⟩
theorem opens_slice (ht : P.underlying t = some (.slice e)) (hc : P.cellsOf e = d.sz) (h : Opens P e d ok) : Opens P t (Kd.slice e d) (fun xs => ∀ x ∈ xs, ok x) := fun enc w base spare held fuel cs x hx => by
  rcases Go.Deep.open_slice ht hx with ⟨rfl, _⟩ | ⟨a, len, cap, m, n, D, Pl, rfl, hb, hl, hm, hm2, _, hel⟩
  · exact ⟨[], ⟨none, 0, rfl, Nat.le_refl _, rfl, by simp, fun h0 => by cases h0⟩, fun x hx => by cases hx⟩
  · have hlm : len ≤ m := by rw [hm2]; split <;> omega
    obtain ⟨xs, hC, hxl, hD⟩ := reads_of (d := d) (w := w) (A := some a) (n := len) (fun _ x => ok x) (by unfold maxLen at hm; omega) (fun i hi => by
      obtain ⟨cs', hcs, htr⟩ := hel i (by omega)
      obtain ⟨x, hK, hok⟩ := h enc w base spare held n cs' _ htr
      refine ⟨x, ⟨a, cs', rfl, d.K_len hK, hK, fun j u hu => ?_⟩, hok⟩
      rw [hc] at hcs
      obtain ⟨_, hcl, hce⟩ := World.cells?_some hcs
      have hjl : j < cs'.length := (List.getElem?_eq_some_iff.1 hu).1
      have hcell := (hce j (by omega)).trans hu
      have e1 : (a.add (i * d.sz)).add j = a.add (i * d.sz + j) := by unfold Addr.add; (repeat' split) <;> simp_all <;> omega
      rw [e1] at hcell
      exact hcell)
    subst hxl
    exact ⟨xs, ⟨some a, cap, rfl, hl, hC⟩, fun x hx => by
      obtain ⟨i, hi, rfl⟩ := List.mem_iff_getElem.1 hx
      exact hD i _ (List.getElem?_eq_getElem hi)⟩
theorem opens_cons {f : Field} {fs : List Field} {off c N : Nat} (hf : Opens P f.type d ok) (hoff : f.offset = off) (hc : P.cellsOf f.type = c) (hr : OpensF P fs (off + c) N d2 ok2) :
    OpensF P (f :: fs) off N (Kd.pair d d2) (fun x => ok x.1 ∧ ok2 x.2) := fun enc w base spare held m cs hl hy => by
  obtain ⟨y, h0⟩ := hy f (by simp)
  obtain ⟨a, h1, h2⟩ := hf enc w base spare held m _ y h0
  obtain ⟨b, h3, h4⟩ := hr enc w base spare held m cs hl (fun g hg => hy g (by simp [hg]))
  rw [hoff, hc] at h1
  refine ⟨(a, b), ⟨_, _, ?_, h1, h3⟩, h2, h4⟩
  rw [← List.drop_drop, List.take_append_drop]
theorem opens_last {f : Field} {off N : Nat} (hf : Opens P f.type d ok) (hoff : f.offset = off) (hc : off + P.cellsOf f.type = N) : OpensF P [f] off N d ok := fun enc w base spare held m cs hl hy => by
  obtain ⟨y, h0⟩ := hy f (by simp)
  obtain ⟨a, h1, h2⟩ := hf enc w base spare held m _ y h0
  refine ⟨a, ?_, h2⟩
  rwa [hoff, List.take_of_length_le (by rw [List.length_drop]; omega)] at h1
theorem opens_struct {fs : Array Field} {N : Nat} (ht : P.underlying t = some (.struct fs)) (hN : P.cellsOf t = N) (h : OpensF P fs.toList 0 N d ok) : Opens P t d ok := fun enc w base spare held fuel cs x hx => by
  obtain ⟨xs, n, _, rfl, hl, hlen, hf⟩ := DataW.trod_struct ht hx
  obtain ⟨a, h1, h2⟩ := h enc w base spare held n cs (by rw [hl, hN]) (fun f hf2 => by
    obtain ⟨i, hi, rfl⟩ := List.mem_iff_getElem.1 hf2
    have hi2 : i < fs.size := by simpa using hi
    have h3 := hf i fs.toList[i] (by rw [Array.getElem?_eq_getElem hi2, Array.getElem_toList])
    refine ⟨xs[i]'(by omega), ?_⟩
    rw [h3]
    exact List.getElem?_eq_getElem _)
  exact ⟨a, by simpa using h1, h2⟩
theorem opens_array {n : Nat} (hs : 0 < d.sz) (ht : P.underlying t = some (.array n e)) (hc : P.cellsOf e = d.sz) (hN : P.cellsOf t = n * d.sz) (h : Opens P e d ok) : Opens P t (Kd.arr n d hs) (fun xs => ∀ x ∈ xs, ok x) := fun enc w base spare held fuel cs x hx => by
  obtain ⟨xs, m, _, rfl, hl, hlen, hf⟩ := DataW.trod_array ht hx
  have hex : ∀ i, i < n → ∃ a, d.K w a ((cs.drop (i * d.sz)).take d.sz) ∧ ok a := fun i hi => by
    have h3 := hf i hi
    rw [List.getElem?_eq_getElem (by omega), hc] at h3
    exact h enc w base spare held m _ _ h3
  have hall : ∀ k, k ≤ n → ∃ l : List α, l.length = k ∧ ∀ i x, l[i]? = some x → d.K w x ((cs.drop (i * d.sz)).take d.sz) ∧ ok x := by
    intro k
    induction k with
    | zero => exact fun _ => ⟨[], rfl, fun i x hx => by simp at hx⟩
    | succ k ih =>
      intro hk
      obtain ⟨l, hl1, hl2⟩ := ih (by omega)
      obtain ⟨a, ha⟩ := hex k (by omega)
      refine ⟨l ++ [a], by simp [hl1], fun i x hi => ?_⟩
      rcases Nat.lt_or_ge i l.length with hlt | hge
      · rw [List.getElem?_append_left hlt] at hi
        exact hl2 i x hi
      · have hil : i < (l ++ [a]).length := (List.getElem?_eq_some_iff.1 hi).1
        have e : i = k := by simp at hil; omega
        subst e
        rw [List.getElem?_append_right (by omega), hl1, Nat.sub_self] at hi
        obtain rfl : a = x := by simpa using hi
        exact ha
  obtain ⟨l, h1, h2⟩ := hall n (Nat.le_refl _)
  exact ⟨l, ⟨h1, by rw [hl, hN, h1], fun j p hp => (h2 j p hp).1⟩, fun x hx => by
    obtain ⟨i, hi, rfl⟩ := List.mem_iff_getElem.1 hx
    exact (h2 i _ (List.getElem?_eq_getElem hi)).2⟩
end
end Go.Proofs.Ytimmglnbjgbbjaa
