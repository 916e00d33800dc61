/- Every operation of package frame by one contract: it does what the plain 'doP' says. No conditions. -/
import Derived.Test.YtimmglnbjgbbjaaStep
set_option linter.unusedSimpArgs false
set_option linter.unusedVariables false
namespace Go.Proofs.Ytimmglnbjgbbjaa
open Go.RowKit Go.Proofs.YtimmglnbjgbbjaaW.PrintWords
def DoOut (p : List Fn) (dp : Int) (path : List Int) (x : In) (f : Fr) (bf : Nat) (pv : Value) (w : World) (en : Ending) (w' : World) : Prop :=
  ∃ av qv, en = .returned (effV (doP p dp path x f).1.kind (doP p dp path x f).1.value (doP p dp path x f).1.reg (doP p dp path x f).1.fn (doP p dp path x f).1.hand (doP p dp path x f).1.why av qv) ∧
    Kd.R (Kd.int .i64) 2 w' w.heap.size (fun _ => True) av (doP p dp path x f).1.args ∧ Kd.R (Kd.int .i64) 3 w' w.heap.size (fun _ => True) qv (doP p dp path x f).1.path ∧
      w'.heap[bf]? = some (.cells (FrB pv (doP p dp path x f).2) 80 (0, 0)) ∧ Keep (fun k => k = bf) w w'
theorem DoOut.mk {p : List Fn} {dp : Int} {path : List Int} {x : In} {f f' : Fr} {bf : Nat} {pv : Value} {w w' : World} {E : Ef} (he : doP p dp path x f = (E, f')) (ha : E.args = []) (hq : E.path = []) {en : Ending}
    (h : en = .returned (effV E.kind E.value E.reg E.fn E.hand E.why nilV nilV) ∧ w'.heap[bf]? = some (.cells (FrB pv f') 80 (0, 0)) ∧ Keep (fun k => k = bf) w w') : DoOut p dp path x f bf pv w en w' := by
  unfold DoOut
  rw [he]
  refine ⟨nilV, nilV, h.1, ?_, ?_, h.2.1, h.2.2⟩
  · rw [ha]; exact Kd.R_nil _ _ _ _ _
  · rw [hq]; exact Kd.R_nil _ _ _ _ _
/-- The function that does an operation. -/
def deedN (op : Int) : Nat :=
  if op = 1 then 72 else if op = 2 then 73 else if op ≤ 8 then 74 else if op = 9 then 75 else if op = 10 then 76 else
  if op = 11 then 77 else if op = 12 then 78 else if op = 13 then 79 else if op = 14 then 80 else if op = 15 then 81 else
  if op = 16 then 82 else 83
section
variable (A : Option Addr) (cp : Nat) (p : List Fn) (bd dp : Int) (bf : Nat) (PA : Option Addr) (pc : Nat) (path : List Int) (f : Fr) (w : World)
  (hbf : w.heap[bf]? = some (.cells (FrB (.slice PA path.length pc) f) 80 (0, 0)))
  (hpath : Kd.C (Kd.int .i64) w PA path.length path) (hpl : path.length ≤ 1000) (hp : Kd.C (kFn 34) w A p.length p) (hP : progB p = true)
include hbf hpath hpl hp hP
theorem do_any (g : Fn) (x : In) (hx : InOk p g x) :
    Calls Try.prog (deedN x.op) #[.agg #[.slice A p.length cp, .int .i64 bd, .int .i64 dp, .pointer (some ⟨bf, 0, none⟩)], inV x] w (DoOut p dp path x f bf (.slice PA path.length pc) w) := by
  obtain ⟨op, a, b, c, k⟩ := x
  have hop : op = 1 ∨ op = 2 ∨ op = 3 ∨ op = 4 ∨ op = 5 ∨ op = 6 ∨ op = 7 ∨ op = 8 ∨ op = 9 ∨ op = 10 ∨ op = 11 ∨ op = 12 ∨ op = 13 ∨ op = 14 ∨ op = 15 ∨ op = 16 ∨ op = 17 := by
    have h1 := hx.op1
    have h2 := hx.op17
    simp only at h1 h2
    omega
  have ha := hx.a
  have hah := hx.ah
  have hb := hx.b
  have hbh := hx.bh
  have hc := hx.c
  have hcf := hx.cf
  simp only at ha hah hb hbh hc hcf
  clear hx
  unfold inV
  simp only
  rcases hop with rfl | rfl | rfl | rfl | rfl | rfl | rfl | rfl | rfl | rfl | rfl | rfl | rfl | rfl | rfl | rfl | rfl
  · show Calls Try.prog _ _ w _
    obtain ⟨a, rfl⟩ : ∃ n : Nat, a = n := ⟨a.toNat, by have := (ha (by omega)); omega⟩
    exact (set_any (.slice A p.length cp) bd dp bf (.slice PA path.length pc) f w hbf 1 a b c k (by have := (ha (by omega)); omega)).mono fun en w2 h => DoOut.mk (E := goesE) (by simp [doP, goesE, failsE, reckonP]; done) rfl rfl h
  · show Calls Try.prog _ _ w _
    obtain ⟨a, rfl⟩ : ∃ n : Nat, a = n := ⟨a.toNat, by have := (ha (by omega)); omega⟩
    obtain ⟨b, rfl⟩ : ∃ n : Nat, b = n := ⟨b.toNat, by have := (hb (by omega)); omega⟩
    exact (move_any (.slice A p.length cp) bd dp bf (.slice PA path.length pc) f w hbf 2 a b c k (by have := (ha (by omega)); omega) (by have := (hb (by omega)); omega)).mono fun en w2 h => DoOut.mk (E := goesE) (by simp [doP, goesE, failsE, reckonP]; done) rfl rfl h
  · show Calls Try.prog _ _ w _
    obtain ⟨a, rfl⟩ : ∃ n : Nat, a = n := ⟨a.toNat, by have := (ha (by omega)); omega⟩
    obtain ⟨b, rfl⟩ : ∃ n : Nat, b = n := ⟨b.toNat, by have := (hb (by omega)); omega⟩
    obtain ⟨c, rfl⟩ : ∃ n : Nat, c = n := ⟨c.toNat, by have := (hc (by omega)); omega⟩
    exact (reckon3_any (.slice A p.length cp) bd dp bf (.slice PA path.length pc) f w hbf a b c k (by have := (ha (by omega)); omega) (by have := (hb (by omega)); omega) (by have := (hc (by omega)); omega)).mono fun en w2 h => DoOut.mk (E := goesE) (by simp [doP, goesE, failsE, reckonP]; done) rfl rfl h
  · show Calls Try.prog _ _ w _
    obtain ⟨a, rfl⟩ : ∃ n : Nat, a = n := ⟨a.toNat, by have := (ha (by omega)); omega⟩
    obtain ⟨b, rfl⟩ : ∃ n : Nat, b = n := ⟨b.toNat, by have := (hb (by omega)); omega⟩
    obtain ⟨c, rfl⟩ : ∃ n : Nat, c = n := ⟨c.toNat, by have := (hc (by omega)); omega⟩
    exact (reckon4_any (.slice A p.length cp) bd dp bf (.slice PA path.length pc) f w hbf a b c k (by have := (ha (by omega)); omega) (by have := (hb (by omega)); omega) (by have := (hc (by omega)); omega)).mono fun en w2 h => DoOut.mk (E := goesE) (by simp [doP, goesE, failsE, reckonP]; done) rfl rfl h
  · show Calls Try.prog _ _ w _
    obtain ⟨a, rfl⟩ : ∃ n : Nat, a = n := ⟨a.toNat, by have := (ha (by omega)); omega⟩
    obtain ⟨b, rfl⟩ : ∃ n : Nat, b = n := ⟨b.toNat, by have := (hb (by omega)); omega⟩
    obtain ⟨c, rfl⟩ : ∃ n : Nat, c = n := ⟨c.toNat, by have := (hc (by omega)); omega⟩
    exact (reckon5_any (.slice A p.length cp) bd dp bf (.slice PA path.length pc) f w hbf a b c k (by have := (ha (by omega)); omega) (by have := (hb (by omega)); omega) (by have := (hc (by omega)); omega)).mono fun en w2 h => DoOut.mk (E := goesE) (by simp [doP, goesE, failsE, reckonP]; done) rfl rfl h
  · show Calls Try.prog _ _ w _
    obtain ⟨a, rfl⟩ : ∃ n : Nat, a = n := ⟨a.toNat, by have := (ha (by omega)); omega⟩
    obtain ⟨b, rfl⟩ : ∃ n : Nat, b = n := ⟨b.toNat, by have := (hb (by omega)); omega⟩
    obtain ⟨c, rfl⟩ : ∃ n : Nat, c = n := ⟨c.toNat, by have := (hc (by omega)); omega⟩
    by_cases hn : f.R c = 0
    · exact (reckon60_any (.slice A p.length cp) bd dp bf (.slice PA path.length pc) f w hbf a b c k (by have := (ha (by omega)); omega) (by have := (hb (by omega)); omega) (by have := (hc (by omega)); omega) hn).mono fun en w2 h => DoOut.mk (E := failsE 1) (by simp [doP, goesE, failsE, reckonP, hn]; done) rfl rfl h
    · exact (reckon6_any (.slice A p.length cp) bd dp bf (.slice PA path.length pc) f w hbf a b c k (by have := (ha (by omega)); omega) (by have := (hb (by omega)); omega) (by have := (hc (by omega)); omega) hn).mono fun en w2 h => DoOut.mk (E := goesE) (by simp [doP, goesE, failsE, reckonP, hn]; done) rfl rfl h
  · show Calls Try.prog _ _ w _
    obtain ⟨a, rfl⟩ : ∃ n : Nat, a = n := ⟨a.toNat, by have := (ha (by omega)); omega⟩
    obtain ⟨b, rfl⟩ : ∃ n : Nat, b = n := ⟨b.toNat, by have := (hb (by omega)); omega⟩
    obtain ⟨c, rfl⟩ : ∃ n : Nat, c = n := ⟨c.toNat, by have := (hc (by omega)); omega⟩
    by_cases hn : f.R b < f.R c
    · exact (reckon71_any (.slice A p.length cp) bd dp bf (.slice PA path.length pc) f w hbf a b c k (by have := (ha (by omega)); omega) (by have := (hb (by omega)); omega) (by have := (hc (by omega)); omega) hn).mono fun en w2 h => DoOut.mk (E := goesE) (by simp [doP, goesE, failsE, reckonP, hn]; done) rfl rfl h
    · exact (reckon70_any (.slice A p.length cp) bd dp bf (.slice PA path.length pc) f w hbf a b c k (by have := (ha (by omega)); omega) (by have := (hb (by omega)); omega) (by have := (hc (by omega)); omega) hn).mono fun en w2 h => DoOut.mk (E := goesE) (by simp [doP, goesE, failsE, reckonP, hn]; done) rfl rfl h
  · show Calls Try.prog _ _ w _
    obtain ⟨a, rfl⟩ : ∃ n : Nat, a = n := ⟨a.toNat, by have := (ha (by omega)); omega⟩
    obtain ⟨b, rfl⟩ : ∃ n : Nat, b = n := ⟨b.toNat, by have := (hb (by omega)); omega⟩
    obtain ⟨c, rfl⟩ : ∃ n : Nat, c = n := ⟨c.toNat, by have := (hc (by omega)); omega⟩
    by_cases hn : f.R b = f.R c
    · exact (reckon81_any (.slice A p.length cp) bd dp bf (.slice PA path.length pc) f w hbf a b c k (by have := (ha (by omega)); omega) (by have := (hb (by omega)); omega) (by have := (hc (by omega)); omega) hn).mono fun en w2 h => DoOut.mk (E := goesE) (by simp [doP, goesE, failsE, reckonP, hn]; done) rfl rfl h
    · exact (reckon80_any (.slice A p.length cp) bd dp bf (.slice PA path.length pc) f w hbf a b c k (by have := (ha (by omega)); omega) (by have := (hb (by omega)); omega) (by have := (hc (by omega)); omega) hn).mono fun en w2 h => DoOut.mk (E := goesE) (by simp [doP, goesE, failsE, reckonP, hn]; done) rfl rfl h
  · show Calls Try.prog _ _ w _
    exact (jump_any (.slice A p.length cp) bd dp bf (.slice PA path.length pc) f w hbf 9 a b c k).mono fun en w2 h => DoOut.mk (E := goesE) (by simp [doP, goesE, failsE, reckonP]; done) rfl rfl h
  · show Calls Try.prog _ _ w _
    obtain ⟨a, rfl⟩ : ∃ n : Nat, a = n := ⟨a.toNat, by have := (ha (by omega)); omega⟩
    exact (zero_any (.slice A p.length cp) bd dp bf (.slice PA path.length pc) f w hbf 10 a b c k (by have := (ha (by omega)); omega)).mono fun en w2 h => DoOut.mk (E := goesE) (by simp [doP, goesE, failsE, reckonP]; done) rfl rfl h
  · show Calls Try.prog _ _ w _
    obtain ⟨b, rfl⟩ : ∃ n : Nat, b = n := ⟨b.toNat, by have := (hb (by omega)); omega⟩
    obtain ⟨c, rfl⟩ : ∃ n : Nat, c = n := ⟨c.toNat, by have := (hcf (by omega)).1; omega⟩
    obtain ⟨hc1, hc2⟩ := (hcf (by omega)).2
    have hcl : c < p.length := by omega
    have hfc := List.getElem?_eq_getElem hcl
    have hfn := prog_fn hP c _ hfc
    simp only [fnB, Bool.and_eq_true, decide_eq_true_eq] at hfn
    rw [Int.toNat_natCast, hfc] at hc2
    simp only [Option.getD_some] at hc2
    obtain ⟨ar, har⟩ : ∃ n : Nat, p[c].ar = n := ⟨p[c].ar.toNat, by omega⟩
    have hE : arOf p c = (ar : Int) := by unfold arOf; rw [Int.toNat_natCast, hfc]; exact har
    by_cases hd : dp ≤ (path.length : Int)
    · exact (spawn_deep (.slice A p.length cp) bd dp bf PA pc path.length f w hbf 11 a b c k hd).mono fun en w2 h => DoOut.mk (E := failsE 4) (by simp [doP, failsE, hd]; done) rfl rfl h
    · refine (spawn_any A cp p bd dp bf PA pc path f w hbf hpath hpl hp 11 a b c ar k p[c] hfc har (by have := (hb (by omega)); omega) (by omega) hd).mono fun en w2 h => ?_
      obtain ⟨av, qv, h1, h2, h3, h4, h5⟩ := h
      unfold DoOut
      rw [show doP p dp path ⟨11, a, b, c, k⟩ f = (⟨3, 0, a, c, 0, 0, regsOf f.R b ar, path ++ [f.kids]⟩, { f with kids := wrap64 (f.kids + 1) }) from by simp [doP, hd, hE]]
      exact ⟨av, qv, h1, h2, h3, h4, h5⟩
  · show Calls Try.prog _ _ w _
    exact (sync_any (.slice A p.length cp) bd dp bf (.slice PA path.length pc) f w hbf 12 a b c k).mono fun en w2 h => DoOut.mk (E := ⟨5, 0, 0, 0, 0, 0, [], []⟩) (by simp [doP, goesE, failsE, reckonP]; done) rfl rfl h
  · show Calls Try.prog _ _ w _
    obtain ⟨b, rfl⟩ : ∃ n : Nat, b = n := ⟨b.toNat, by have := (hb (by omega)); omega⟩
    obtain ⟨c, rfl⟩ : ∃ n : Nat, c = n := ⟨c.toNat, by have := (hcf (by omega)).1; omega⟩
    obtain ⟨hc1, hc2⟩ := (hcf (by omega)).2
    have hcl : c < p.length := by omega
    have hfc := List.getElem?_eq_getElem hcl
    have hfn := prog_fn hP c _ hfc
    simp only [fnB, Bool.and_eq_true, decide_eq_true_eq] at hfn
    rw [Int.toNat_natCast, hfc] at hc2
    simp only [Option.getD_some] at hc2
    obtain ⟨ar, har⟩ : ∃ n : Nat, p[c].ar = n := ⟨p[c].ar.toNat, by omega⟩
    have hE : arOf p c = (ar : Int) := by unfold arOf; rw [Int.toNat_natCast, hfc]; exact har
    by_cases hd : dp ≤ (path.length : Int)
    · exact (future_deep (.slice A p.length cp) bd dp bf PA pc path.length f w hbf 13 a b c k hd).mono fun en w2 h => DoOut.mk (E := failsE 4) (by simp [doP, failsE, hd]; done) rfl rfl h
    · refine (future_any A cp p bd dp bf PA pc path f w hbf hpath hpl hp 13 a b c ar k p[c] hfc har (by have := (hb (by omega)); omega) (by omega) hd).mono fun en w2 h => ?_
      obtain ⟨av, qv, h1, h2, h3, h4, h5⟩ := h
      unfold DoOut
      rw [show doP p dp path ⟨13, a, b, c, k⟩ f = (⟨4, 0, 0, c, a, 0, regsOf f.R b ar, path ++ [f.kids]⟩, { f with kids := wrap64 (f.kids + 1) }) from by simp [doP, hd, hE]]
      exact ⟨av, qv, h1, h2, h3, h4, h5⟩
  · show Calls Try.prog _ _ w _
    obtain ⟨b, rfl⟩ : ∃ n : Nat, b = n := ⟨b.toNat, by have := (hbh rfl); omega⟩
    refine (touch_any (.slice A p.length cp) bd dp bf (.slice PA path.length pc) f w hbf 14 a b c k (by have := hbh rfl; omega)).mono fun en w2 h => ?_
    by_cases hn : f.H b = 0
    · rw [if_pos hn] at h
      exact DoOut.mk (E := failsE 2) (by simp [doP, failsE, hn]; done) rfl rfl h
    · rw [if_neg hn] at h
      exact DoOut.mk (E := ⟨6, 0, a, 0, f.H b, 0, [], []⟩) (by simp [doP, failsE, hn]; done) rfl rfl h
  · show Calls Try.prog _ _ w _
    obtain ⟨a, rfl⟩ : ∃ n : Nat, a = n := ⟨a.toNat, by have := (ha (by omega)); omega⟩
    exact (emit_any (.slice A p.length cp) bd dp bf (.slice PA path.length pc) f w hbf 15 a b c k (by have := (ha (by omega)); omega)).mono fun en w2 h => DoOut.mk (E := ⟨2, f.R a, 0, 0, 0, 0, [], []⟩) (by simp [doP]; done) rfl rfl h
  · show Calls Try.prog _ _ w _
    exact (fail_any (.slice A p.length cp) bd dp bf (.slice PA path.length pc) f w hbf 16 a b c k).mono fun en w2 h => DoOut.mk (E := failsE k) (by simp [doP]; done) rfl rfl h
  · show Calls Try.prog _ _ w _
    exact (ret_any (.slice A p.length cp) bd dp bf (.slice PA path.length pc) f w hbf 17 a b c k).mono fun en w2 h => DoOut.mk (E := ⟨7, 0, a, 0, 0, 0, [], []⟩) (by simp [doP]; done) rfl rfl h
end
end Go.Proofs.Ytimmglnbjgbbjaa
