/- The law FrameBegins, in plain Lean: what its two instructions do. No conditions. -/
import Derived.Test.YtimmglnbjgbbjaaExec
import Derived.Test.YtimmglnbjgbbjaaNew
import Derived.Test.YtimmglnbjgbbjaaJumps1
import Derived.Laws.OwnMore
import Derived.Laws.MakeOwn
set_option linter.unusedSimpArgs false
set_option linter.unusedVariables false
namespace Go.Proofs.Ytimmglnbjgbbjaa
open Go.RowKit Go.Proofs.YtimmglnbjgbbjaaW.PrintWords
def bgP (op : Int) : List Fn := [⟨4, [⟨op, 2, 1, 1, 0⟩, ⟨9, 0, 0, 0, 0⟩]⟩, ⟨3, [⟨17, 0, 0, 0, 0⟩]⟩]
theorem bg_prog {op : Int} (h : op = 11 ∨ op = 13) : progB (bgP op) = true := by
  rcases h with rfl | rfl <;> kernel_rfl
theorem bg_there {op : Int} (at_ s k : Int) (R H : Nat → Int) (h0 : 0 ≤ at_) (h1 : at_ < 2) : thereB (bgP op) ⟨0, at_, s, k, R, H⟩ = true := by
  simp [thereB, bgP]; omega
def bgE (op : Int) (d i : Nat) (R : Nat → Int) : Ef := ⟨if op = 11 then 3 else 4, 0, if op = 11 then 2 else 0, 1, if op = 11 then 0 else 2, 0, [R 1, R 2, R 3], List.replicate d 0 ++ [(i : Int)]⟩
theorem bg_first {op : Int} (h : op = 11 ∨ op = 13) (d i : Nat) (hd : d < 3) (hi : i < 10) (R : Nat → Int) :
    execP (bgP op) 99 3 (List.replicate d 0) ⟨0, 0, 2 * (i : Int), i, R, fun _ => 0⟩ = (bgE op d i R, 0, ⟨0, 1, 2 * (i : Int) + 1, (i : Int) + 1, R, fun _ => 0⟩) := by
  unfold execP
  rw [bg_prog h, show limB 99 3 = true from rfl, bg_there _ _ _ _ _ (by omega) (by omega), if_neg (by simp), if_neg (by simp), if_neg (by simp; omega)]
  rw [show codeAt (bgP op) ⟨0, 0, 2 * (i : Int), i, R, fun _ => 0⟩ = ⟨op, 2, 1, 1, 0⟩ from rfl]
  have hw1 : wrap64 (2 * (i : Int) + 1) = 2 * (i : Int) + 1 := by unfold wrap64; omega
  have hw2 : wrap64 ((i : Int) + 1) = (i : Int) + 1 := by unfold wrap64; omega
  have hl : ¬ (3 : Int) ≤ ((List.replicate d (0 : Int)).length : Int) := by simp; omega
  rcases h with rfl | rfl
  · simp only [doP, Int.reduceEq, Int.reduceLE, if_true, if_false, hl, hw1, hw2, bgE]
    rfl
  · simp only [doP, Int.reduceEq, Int.reduceLE, if_true, if_false, hl, hw1, hw2, bgE]
    rfl
theorem bg_deep {op : Int} (h : op = 11 ∨ op = 13) (d : Nat) (hd : 3 ≤ d) (R : Nat → Int) :
    execP (bgP op) 99 3 (List.replicate d 0) ⟨0, 0, 0, 0, R, fun _ => 0⟩ = (failsE 4, 0, ⟨0, 1, 1, 0, R, fun _ => 0⟩) := by
  unfold execP
  rw [bg_prog h, show limB 99 3 = true from rfl, bg_there _ _ _ _ _ (by omega) (by omega), if_neg (by simp), if_neg (by simp), if_neg (by simp)]
  rw [show codeAt (bgP op) ⟨0, 0, 0, 0, R, fun _ => 0⟩ = ⟨op, 2, 1, 1, 0⟩ from rfl]
  have hw1 : wrap64 ((0 : Int) + 1) = 1 := by unfold wrap64; omega
  have hl : (3 : Int) ≤ ((List.replicate d (0 : Int)).length : Int) := by simp; omega
  rcases h with rfl | rfl
  · simp only [doP, Int.reduceEq, Int.reduceLE, if_true, if_false, hl, hw1, show wrap64 (1 : Int) = 1 from by unfold wrap64; omega, Int.zero_add]
  · simp only [doP, Int.reduceEq, Int.reduceLE, if_true, if_false, hl, hw1, show wrap64 (1 : Int) = 1 from by unfold wrap64; omega, Int.zero_add]
theorem bg_second {op : Int} (h : op = 11 ∨ op = 13) (d i : Nat) (hi : i < 10) (R : Nat → Int) :
    execP (bgP op) 99 3 (List.replicate d 0) ⟨0, 1, 2 * (i : Int) + 1, (i : Int) + 1, R, fun _ => 0⟩ = (goesE, 0, ⟨0, 0, 2 * ((i + 1 : Nat) : Int), ((i + 1 : Nat) : Int), R, fun _ => 0⟩) := by
  unfold execP
  rw [bg_prog h, show limB 99 3 = true from rfl, bg_there _ _ _ _ _ (by omega) (by omega), if_neg (by simp), if_neg (by simp), if_neg (by simp; omega)]
  rw [show codeAt (bgP op) ⟨0, 1, 2 * (i : Int) + 1, (i : Int) + 1, R, fun _ => 0⟩ = ⟨9, 0, 0, 0, 0⟩ from rfl]
  have hw1 : wrap64 (2 * (i : Int) + 1 + 1) = 2 * ((i + 1 : Nat) : Int) := by unfold wrap64; omega
  have hw2 : (i : Int) + 1 = ((i + 1 : Nat) : Int) := by omega
  simp only [doP, Int.reduceEq, Int.reduceLE, if_true, if_false, hw1, hw2]
structure BgSt (w : World) (op : Int) (a0 a1 a2 a3 : Int) (ga b : Nat) (QA : Option Addr) (qc d : Nat) (f : Fr) (wx : World) : Prop where
  c1 : wx.heap[w.heap.size + 2]? = some (.cells #[.int .i64 op, .int .i64 2, .int .i64 1, .int .i64 1, .int .i64 0, .int .i64 9, .int .i64 0, .int .i64 0, .int .i64 0, .int .i64 0] 24 (0, 0))
  c2 : wx.heap[w.heap.size + 3]? = some (.cells #[.int .i64 17, .int .i64 0, .int .i64 0, .int .i64 0, .int .i64 0] 24 (0, 0))
  pr : wx.heap[w.heap.size + 4]? = some (.cells #[.int .i64 4, .slice (some ⟨w.heap.size + 2, 0, none⟩) 2 2, .int .i64 3, .slice (some ⟨w.heap.size + 3, 0, none⟩) 1 1] 34 (0, 0))
  ar : wx.heap[w.heap.size + 1]? = some (.cells #[.int .i64 a0, .int .i64 a1, .int .i64 a2, .int .i64 a3] ga (0, 0))
  fr : wx.heap[b]? = some (.cells (FrB (.slice QA (List.replicate d (0 : Int)).length qc) f) 80 (0, 0))
  pa : Kd.F (Kd.int .i64) wx (fun k => k ≠ b) QA (List.replicate d (0 : Int)).length (List.replicate d 0)
  at_ : w.heap.size + 4 < b
  bel : Below w.heap.size w wx
theorem BgSt.below {w wx wy : World} {op a0 a1 a2 a3 : Int} {ga b : Nat} {QA : Option Addr} {qc d : Nat} {f : Fr} (h : BgSt w op a0 a1 a2 a3 ga b QA qc d f wx) (hb : Below wx.heap.size wx wy) : BgSt w op a0 a1 a2 a3 ga b QA qc d f wy :=
  ⟨blk_below h.c1 hb, blk_below h.c2 hb, blk_below h.pr hb, blk_below h.ar hb, blk_below h.fr hb, Kd.F_below h.pa hb, h.at_, below_thenB h.bel hb⟩
theorem BgSt.step {w wx wy : World} {op a0 a1 a2 a3 : Int} {ga b : Nat} {QA : Option Addr} {qc d : Nat} {f f' : Fr} (h : BgSt w op a0 a1 a2 a3 ga b QA qc d f wx) (hk : Keep (fun k => k = b) wx wy)
    (hf : wy.heap[b]? = some (.cells (FrB (.slice QA (List.replicate d (0 : Int)).length qc) f') 80 (0, 0))) : BgSt w op a0 a1 a2 a3 ga b QA qc d f' wy :=
  have ha := h.at_
  ⟨hk.heap h.c1 (by omega), hk.heap h.c2 (by omega), hk.heap h.pr (by omega), hk.heap h.ar (by omega), hf, Keep.F hk h.pa (fun k hk => hk), ha, (Keep.trans (Keep.of_below (fun k => k = b) h.bel) hk).belowB (Nat.le_refl _) (fun k hk => by omega)⟩
theorem bg_code {w : World} {g : Nat} {cs : Array Value} {t : TypeId} (xs : List In) (h : w.heap[g]? = some (.cells cs t (0, 0))) (hs : cs.toList = xs.flatMap inCells) (hm : xs.length ≤ 9223372036854775807) : Kd.F kIn w (fun k => k = g) (some ⟨g, 0, none⟩) xs.length xs :=
  fun W' hW => Kd.F_now (Kd.R_F (code_R (base := g) xs ((hW g rfl (blk_lt h)).trans h) hs (Nat.le_refl _) hm))
theorem BgSt.prog {w wx : World} {op a0 a1 a2 a3 : Int} {ga b : Nat} {QA : Option Addr} {qc d : Nat} {f : Fr} (h : BgSt w op a0 a1 a2 a3 ga b QA qc d f wx) : Kd.F (kFn 34) wx (fun k => k ≠ b) (some ⟨w.heap.size + 4, 0, none⟩) (bgP op).length (bgP op) :=
  have ha := h.at_
  prog_F (bgP op) h.pr (by omega) (by simp [bgP]) (fun j p hj => by
    match j, hj with
    | 0, hj =>
      obtain rfl := Option.some.inj hj
      exact ⟨some ⟨w.heap.size + 2, 0, none⟩, 2, rfl, rfl, Nat.le_refl _, Kd.F_mono (bg_code [⟨op, 2, 1, 1, 0⟩, ⟨9, 0, 0, 0, 0⟩] h.c1 rfl (by simp)) (fun k hk => by omega)⟩
    | 1, hj =>
      obtain rfl := Option.some.inj hj
      exact ⟨some ⟨w.heap.size + 3, 0, none⟩, 1, rfl, rfl, Nat.le_refl _, Kd.F_mono (bg_code [⟨17, 0, 0, 0, 0⟩] h.c2 rfl (by simp)) (fun k hk => by omega)⟩
    | j + 2, hj => simp [bgP] at hj)
theorem BgSt.exec {w wx : World} {op a0 a1 a2 a3 : Int} {ga b : Nat} {QA : Option Addr} {qc d : Nat} {f : Fr} (h : BgSt w op a0 a1 a2 a3 ga b QA qc d f wx) (hd : d ≤ 5) :
    Calls Try.prog 24 #[.slice (some ⟨w.heap.size + 4, 0, none⟩) 2 2, .agg #[.int .i64 99, .int .i64 3], .pointer (some ⟨b, 0, none⟩)] wx (ExecOut (execP (bgP op) 99 3 (List.replicate d 0) f).1 (execP (bgP op) 99 3 (List.replicate d 0) f).2.1 (execP (bgP op) 99 3 (List.replicate d 0) f).2.2 b (.slice QA (List.replicate d (0 : Int)).length qc) wx) :=
  exec_any (some ⟨w.heap.size + 4, 0, none⟩) 2 (bgP op) 99 3 wx b h.prog QA qc (List.replicate d 0) f h.fr h.pa (by simp; omega)
theorem new_n (fn : Int) (PA : Option Addr) (pc n : Nat) (path : List Int) (hn : path.length = n) (GA : Option Addr) (gc m : Nat) (args : List Int) (hm : args.length = m) (H : Nat → Int) (w : World) (hpath : Kd.C (Kd.int .i64) w PA path.length path) (hpl : path.length ≤ 1000) (hargs : Kd.C (Kd.int .i64) w GA args.length args) :
    Calls Try.prog 31 #[.int .i64 fn, .slice PA n pc, .slice GA m gc, .agg #[.int .i64 (H 0), .int .i64 (H 1), .int .i64 (H 2), .int .i64 (H 3)]] w fun e w' =>
      ∃ b QA qc, e = .returned (.pointer (some ⟨b, 0, none⟩)) ∧ w.heap.size ≤ b ∧ w'.heap[b]? = some (.cells (FrB (.slice QA path.length qc) ⟨fn, 0, 0, 0, regs0 args, H⟩) 80 (0, 0)) ∧
        Kd.R (Kd.int .i64) 3 w' w.heap.size (fun k => k ≠ b) (.slice QA path.length qc) path ∧ Below w.heap.size w w' := by
  subst hn hm
  exact new_any fn PA pc path GA gc args H w hpath hpl hargs
theorem made_C {w : World} {g : Nat} {t : TypeId} (D : Nat) (hD : D ≤ 1000) (h : w.heap[g]? = some (.cells (madeCells #[.int .i64 0] D) t (0, 0))) : Kd.C (Kd.int .i64) w (some ⟨g, 0, none⟩) (List.replicate D (0 : Int)).length (List.replicate D 0) :=
  ints_C _ (by simp; omega) (by rw [h]; congr 2; apply Array.toList_inj.1; rw [toList_madeCells_one]; simp)
/-- A row of whole numbers in the midst of a block. -/
theorem ints_C_off {w : World} {g : Nat} {t : TypeId} (o : Nat) (pre l : List Int) (ho : pre.length = o) (hm : l.length ≤ 9223372036854775807) (h : w.heap[g]? = some (.cells ((pre ++ l).map (Value.int .i64)).toArray t (0, 0))) : Kd.C (Kd.int .i64) w (some ⟨g, o, none⟩) l.length l :=
  ⟨rfl, hm, fun _ => ⟨_, rfl, fun j q hj => ⟨[.int .i64 q], rfl, rfl, fun i u hu => by
    match i, hu with
    | 0, hu =>
      obtain rfl : Value.int .i64 q = u := by simpa using hu
      show w.cell? ((⟨g, o, none⟩ : Addr).add (j * 1 + 0)) = _
      have e : (⟨g, o, none⟩ : Addr).add (j * 1 + 0) = ⟨g, o + j, none⟩ := by unfold Addr.add; split <;> simp_all
      rw [e, blk_cell h]
      subst ho
      simp [List.getElem?_append_right, hj]
    | i + 1, hu => simp at hu⟩⟩⟩
theorem info_ints : (Try.prog.info? 3).map (fun i => (i.zero, i.size, i.bytes)) = some (some (.int .i64 0), 1, 8) := by kernel_rfl
theorem run_make38 (D : Nat) (hD : D ≤ 1000) (u : World) : (Instr.makeSlice 38 (.int .i64 (D : Int)) (.int .i64 (D : Int))).run Try.prog u = .ok (.slice (some ⟨u.heap.size, 0, none⟩) D D) (u.alloc (.cells (madeCells #[.int .i64 0] D) 3)) := by
  obtain ⟨i0, hi, hz0, hz1, hz2⟩ := info_parts info_ints
  have h := run_make (P := Try.prog) u 38 3 i0 (.int .i64 0) Try.underlying38 hi hz0 .i64 .i64 (D : Int) (D : Int) (by omega) (Int.le_refl _) (by rw [hz2]; omega) (by omega)
  simpa [hz1, Value.cells] using h
end Go.Proofs.Ytimmglnbjgbbjaa
