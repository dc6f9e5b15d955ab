/- Texts of this session joined by a small program: plain Lean functions with the answers of Go functions of this seat, proofs that the machine's calls come to them, and plain laws over them that the claim ShareSum uses. -/
import Derived.Test.YtidonenkdibaoaaProg
import Derived.RegionTactic
import Derived.Maps.Own
import Derived.Maps.OwnOps
import Derived.Maps.OwnSet
import Derived.Laws.Externs
import Derived.WalkLawsBesides
import Derived.Deep.RegionLaw
import Derived.IntWalk
import Derived.Below
import Derived.Deep.Draws
import Derived.Deep.AppendLies
import Derived.Maps.AppendAt
import Derived.OwnWalk
import Derived.Laws.BytesArg
import Derived.Laws.MakeOwn
import Derived.Laws.OwnMore
import Derived.Deep.OwnRows
import Derived.Tactics
import Derived.Lib.ConvBytes
import Derived.Laws.Slices
import Derived.WalkKit
import Derived.KernelRfl
import Derived.RowKit3
import Derived.Deep.LoopGhost
import Derived.Deep.QuietTactic
import Derived.BigQuiet
import Derived.WideLaws
import Derived.Deep.DeepCutAuto
import Derived.Deep.CutBlock
import Derived.Deep.RegionHeld3
import Derived.Laws.Rows
import Derived.Lib.AppendStr
import Derived.ArgAppend
import Derived.Laws.IdiomCopy
import Derived.OrdersHeld
import Derived.Laws.BitsLemmas
import Derived.RowKit
import Derived.Test.YtidonenkdibaoaaWWords
import Derived.Test.YtidonenkdibaoaaWLast
import Derived.Test.YtidonenkdibaoaaWTab
import Derived.Test.YtidonenkdibaoaaWFour
import Derived.Test.YtidonenkdibaoaaWQPut
import Derived.Test.YtidonenkdibaoaaWApart
import Derived.Test.YtidonenkdibaoaaWArr
import Derived.Test.YtidonenkdibaoaaWZeros
import Derived.Test.YtidonenkdibaoaaWFoot
import Derived.Test.YtidonenkdibaoaaWKept
import Derived.Test.YtidonenkdibaoaaWShare
import Derived.Test.YtidonenkdibaoaaWN
import Derived.Test.YtidonenkdibaoaaWFootNe
import Derived.Test.YtidonenkdibaoaaWAt
import Derived.Test.YtidonenkdibaoaaWEqStruct
import Derived.Test.YtidonenkdibaoaaWRepsOne
import Derived.Test.YtidonenkdibaoaaWInv
import Derived.Test.YtidonenkdibaoaaWInvWords
import Derived.Test.YtidonenkdibaoaaWGuard
import Derived.Test.YtidonenkdibaoaaWNEv
import Derived.Test.YtidonenkdibaoaaWMore
import Derived.Laws.Bits64
import Derived.Test.YtidonenkdibaoaaMShareSum3
section
namespace Go.Proofs.Ytidonenkdibaoaa.PX
open Go.RowKit Go.Proofs.YtidonenkdibaoaaW.PrintWords Go.Proofs.YtidonenkdibaoaaW.PrintLast Go.Proofs.YtidonenkdibaoaaW.PrintMore
set_option linter.unusedVariables false
set_option linter.unusedSimpArgs false

def capS (a0 : Int) (l : List Int) : List Int × Int := if (shareS a0 l).2 = 7 then ([], 0) else if (shareS a0 l).2 = 0 then (if lsum l ≤ a0 then (l, 0) else ((shareS a0 l).1, 0)) else ([], (shareS a0 l).2)
theorem shareS_err (a0 : Int) (l : List Int) : (shareS a0 l).2 = (checkS a0 l).2 := by
  unfold shareS
  split
  · rename_i h; exact h.1.symm
  · rfl
theorem cap_l0 (a0 : Int) (l sh : List Int) (hl : l.length ≤ 1000) (hok : l.all okW = true) (n : Nat) : ∀ i : Nat, i + n = l.length → Ev (fun k => apportion_Cap.l0 k a0 l sh (sumI (fun i => l.getD i 0) i) l (l.length : Int) (i : Int)) (if lsum l ≤ a0 then (l, 0) else (sh, 0)) := by
  induction n with
  | zero =>
    intro i h0
    obtain rfl : i = l.length := by omega
    refine Ev.up ?_
    simp only [apportion_Cap.l0]
    refine Ev.neg (by omega) ?_
    refine Ev.ite (fun c => ?_) (fun c => ?_)
    · rw [if_pos (show lsum l ≤ a0 from c)]
      refine Ev.pos (by simp; omega) ?_
      exact Ev.now _
    · rw [if_neg (show ¬ lsum l ≤ a0 from c)]; exact Ev.now _
  | succ n ih =>
    intro i h0
    refine Ev.up ?_
    simp only [apportion_Cap.l0, rd_nat]
    refine Ev.pos (by omega) (Ev.pos (by omega) (Ev.pos (by omega) ?_))
    have hb := sumI_le (f := fun i => l.getD i 0) (n := i) (B := 1000000000000) (fun j hj => ok_at hok j (by omega))
    have hb2 : (i : Int) * 1000000000000 ≤ 1000 * 1000000000000 := by omega
    have hi := ok_at hok i (by omega)
    rw [wrap64_of (by omega) (by omega), wrap64_of (by omega) (by omega)]
    exact ih (i + 1) (by omega)
theorem cap_ev (a0 : Int) (l : List Int) : Ev (fun k => apportion_Cap.f k a0 l) (capS a0 l) := by
  unfold apportion_Cap.f capS
  refine Ev.bind (share_ev a0 l) ?_
  refine Ev.ite (fun c => ?_) (fun c => ?_)
  · rw [if_pos c]; exact Ev.now _
  · rw [if_neg c]
    refine Ev.ite (fun d => ?_) (fun d => ?_)
    · rw [if_pos d]
      obtain ⟨h1, h2, h3, h4, _⟩ := checkS_ok ((shareS_err a0 l).symm.trans d)
      exact cap_l0 a0 l (shareS a0 l).1 h1 h4 l.length 0 (by omega)
    · rw [if_neg d]; exact Ev.now _
theorem same_l0 (l : List Int) (hl : l.length < 4611686018427387904) (n : Nat) : ∀ i : Nat, i + n = l.length → Ev (fun k => customsref02_Same.l0 k l l (i : Int)) true := by
  induction n with
  | zero =>
    intro i h0
    refine Ev.up ?_
    simp only [customsref02_Same.l0]
    exact Ev.neg (by omega) (Ev.now _)
  | succ n ih =>
    intro i h0
    refine Ev.up ?_
    simp only [customsref02_Same.l0]
    refine Ev.pos (by omega) (Ev.pos (by omega) (Ev.pos (by omega) ?_))
    refine Ev.congr (fun k => if_pos trivial) ?_
    rw [wrap64_of (by omega) (by omega)]
    exact ih (i + 1) (by omega)
theorem same_ev (l : List Int) (hl : l.length < 4611686018427387904) : Ev (fun k => customsref02_Same.f k l l) true := by
  unfold customsref02_Same.f
  exact Ev.pos rfl (same_l0 l hl l.length 0 (by omega))
theorem share_fix : shareS 100 [1, 1, 1] = ([34, 33, 33], 0) := by decide +kernel
theorem cap_fix : capS 10 [4, 16] = ([2, 8], 0) := by decide +kernel
theorem awake_ev : Ev (fun k => customslaw03_awake.f k) true := by
  unfold customslaw03_awake.f
  refine Ev.bind (share_ev 100 [1, 1, 1]) ?_
  refine Ev.bind (cap_ev 10 [4, 16]) ?_
  rw [share_fix, cap_fix]
  refine Ev.pos rfl (Ev.pos rfl ?_)
  refine Ev.bind (same_ev [34, 33, 33] (by decide)) ?_
  refine Ev.pos rfl ?_
  exact Ev.bind (same_ev [2, 8] (by decide)) (Ev.now _)
theorem tmod_rng (x m : Int) (hm : 0 < m) : -m < Int.tmod x m ∧ Int.tmod x m < m := by
  by_cases h : 0 ≤ x
  · rw [Int.tmod_eq_emod_of_nonneg h]
    have := Int.emod_nonneg x (show m ≠ 0 by omega)
    have := Int.emod_lt_of_pos x hm
    omega
  · have e : Int.tmod x m = -((-x) % m) := by
      have := Int.neg_tmod (-x) m
      rw [Int.neg_neg] at this
      rw [this, Int.tmod_eq_emod_of_nonneg (by omega)]
    have := Int.emod_nonneg (-x) (show m ≠ 0 by omega)
    have := Int.emod_lt_of_pos (-x) hm
    omega
theorem total_is (a0 : Int) (h : I64 a0) (b : Bool) : ∃ t : Int, customslaw03_total.f a0 b = some t ∧ 0 ≤ t ∧ t ≤ 1000000000000 := by
  unfold customslaw03_total.f
  have e1 := tmod_rng a0 1000000000001 (by decide)
  have e2 : wrap64 (-(Int.tmod a0 1000000000001)) = -(Int.tmod a0 1000000000001) := wrap64_of (by omega) (by omega)
  rw [e2]
  generalize Int.tmod a0 1000000000001 = x at *
  have e3 : 0 ≤ mx x (-x) ∧ mx x (-x) ≤ 1000000000000 := by unfold mx; split <;> omega
  by_cases c : b = true
  · rw [if_pos c]
    refine ⟨_, rfl, ?_⟩
    rw [Int.tmod_eq_emod_of_nonneg e3.1]; omega
  · rw [if_neg c]
    exact ⟨_, rfl, e3⟩
theorem set_ok {l : List Int} (h : l.all okW = true) (i : Nat) {v : Int} (hv : 0 ≤ v ∧ v ≤ 1000000000000) : (l.set i v).all okW = true := by
  refine List.all_eq_true.mpr fun x hx => ?_
  rcases List.mem_or_eq_of_mem_set hx with h1 | h1
  · exact List.all_eq_true.mp h x h1
  · rw [h1]; exact (okW_iff v).mpr hv
theorem weights_l0 (l : List Int) (hl : l.length ≤ 60) (b : Bool) (n : Nat) : ∀ (i : Nat) (x : List Int), i + n = l.length → x.length = l.length → x.all okW = true → ∃ ws, Ev (fun k => customslaw03_weights.l0 k l b x (i : Int)) ws ∧ ws.length = l.length ∧ ws.all okW = true := by
  induction n with
  | zero =>
    intro i x h0 h1 h2
    refine ⟨x, Ev.up ?_, h1, h2⟩
    simp only [customslaw03_weights.l0]
    exact Ev.neg (by omega) (Ev.now _)
  | succ n ih =>
    intro i x h0 h1 h2
    have e1 := tmod_rng (rd l (i : Int)) 1000000000001 (by decide)
    have e2 : wrap64 (-(Int.tmod (rd l (i : Int)) 1000000000001)) = -(Int.tmod (rd l (i : Int)) 1000000000001) := wrap64_of (by omega) (by omega)
    have e3 : 0 ≤ mx (Int.tmod (rd l (i : Int)) 1000000000001) (-(Int.tmod (rd l (i : Int)) 1000000000001)) ∧ mx (Int.tmod (rd l (i : Int)) 1000000000001) (-(Int.tmod (rd l (i : Int)) 1000000000001)) ≤ 1000000000000 := by unfold mx; split <;> omega
    generalize hv : mx (Int.tmod (rd l (i : Int)) 1000000000001) (-(Int.tmod (rd l (i : Int)) 1000000000001)) = v at e3
    have e4 : 0 ≤ Int.tmod v 5 ∧ Int.tmod v 5 ≤ 1000000000000 := by rw [Int.tmod_eq_emod_of_nonneg e3.1]; omega
    have ew : wrap64 ((i : Int) + 1) = ((i + 1 : Nat) : Int) := wrap64_of (by omega) (by omega)
    by_cases c : b = true
    · obtain ⟨ws, h3, h4⟩ := ih (i + 1) ((x.set i v).set i (Int.tmod v 5)) (by omega) (by simpa using h1) (set_ok (set_ok h2 i e3) i e4)
      refine ⟨ws, Ev.up ?_, h4⟩
      simp only [customslaw03_weights.l0]
      rw [e2, hv, ew]
      refine Ev.pos (by omega) (Ev.pos (by omega) (Ev.pos (by omega) ?_))
      simp only [Option.bind_some, Int.toNat_natCast]
      exact Ev.pos c h3
    · obtain ⟨ws, h3, h4⟩ := ih (i + 1) (x.set i v) (by omega) (by simpa using h1) (set_ok h2 i e3)
      refine ⟨ws, Ev.up ?_, h4⟩
      simp only [customslaw03_weights.l0]
      rw [e2, hv, ew]
      refine Ev.pos (by omega) (Ev.pos (by omega) (Ev.pos (by omega) ?_))
      simp only [Option.bind_some, Int.toNat_natCast]
      exact Ev.neg c h3
theorem zeros_ok (n : Nat) : (List.replicate n (0 : Int)).all okW = true := by
  refine List.all_eq_true.mpr fun x hx => ?_
  rw [List.eq_of_mem_replicate hx]; decide
theorem weights_j0 (l : List Int) (hl : l.length ≤ 60) (b : Bool) : ∃ ws, Ev (fun k => customslaw03_weights.j0 k l b) ws ∧ ws.length = l.length ∧ ws.all okW = true := by
  obtain ⟨ws, h1, h2⟩ := weights_l0 l hl b l.length 0 (List.replicate l.length 0) (by omega) (by simp) (zeros_ok _)
  refine ⟨ws, Ev.up ?_, h2⟩
  simp only [customslaw03_weights.j0, Int.toNat_natCast]
  exact Ev.pos (by omega) (Ev.pos (by omega) h1)
theorem weights_ev (l : List Int) (b : Bool) : ∃ ws, Ev (fun k => customslaw03_weights.f k l b) ws ∧ ws.length ≤ 60 ∧ ws.all okW = true := by
  unfold customslaw03_weights.f
  by_cases c : (l.length : Int) > 60
  · obtain ⟨ws, h1, h2, h3⟩ := weights_j0 (l.take 60) (by rw [List.length_take]; omega) b
    exact ⟨ws, Ev.pos c (Ev.pos (by omega) h1), by rw [h2, List.length_take]; omega, h3⟩
  · obtain ⟨ws, h1, h2, h3⟩ := weights_j0 l (by omega) b
    exact ⟨ws, Ev.neg c h1, by omega, h3⟩
/- the share of a valid total and valid weights -/
theorem share_ok {t : Int} {ws : List Int} (hn : ws.length ≤ 1000) (hl : 0 < ws.length) (h0 : 0 ≤ t) (h1 : t ≤ 1000000000000) (h : ws.all okW = true) : shareS t ws = (shOut t (shSum (lsum ws) ws) (shW (lsum ws) ws), 0) := by
  unfold shareS
  rw [if_pos]
  rw [checkS_of hn h0 h1 h (fun h => by omega)]
  exact ⟨rfl, hl⟩
theorem share_none {t : Int} {ws : List Int} (hl : ws.length = 0) (h0 : 0 ≤ t) (h1 : t ≤ 1000000000000) : shareS t ws = ([], if 0 < t then 7 else 0) := by
  unfold shareS
  rw [if_neg (by omega)]
  unfold checkS
  have : ws = [] := List.eq_nil_of_length_eq_zero hl
  subst this
  rw [if_neg (by decide), if_neg (by simp; omega)]
  by_cases c : 0 < t
  · rw [if_pos ⟨rfl, c⟩, if_pos c]
  · rw [if_neg (by omega), if_neg c]
end Go.Proofs.Ytidonenkdibaoaa.PX
end
section
namespace Go.Proofs.Ytidonenkdibaoaa.Pure
open Go.RowKit Go.Proofs.Ytidonenkdibaoaa.PX Go.Proofs.YtidonenkdibaoaaW.PrintWords Go.Proofs.YtidonenkdibaoaaW.PrintLast Go.Proofs.YtidonenkdibaoaaW.PrintMore
set_option linter.unusedVariables false
set_option linter.unusedSimpArgs false

theorem getD_set (l : List Int) (i : Nat) (v : Int) (h : i < l.length) (j : Nat) : (l.set i v).getD j 0 = if j = i then v else l.getD j 0 := by
  rw [List.getD_eq_getElem?_getD, List.getD_eq_getElem?_getD, List.getElem?_set]
  by_cases c : i = j
  · subst c; rw [if_pos rfl, if_pos h, if_pos rfl]; rfl
  · rw [if_neg c, if_neg (fun e => c e.symm)]
/- the second loop: each share lies between the quotient rounded down and rounded up -/
theorem sum_l1 (t : Int) (ws sh : List Int) (h0 : 0 ≤ t) (h1 : t < 1000000) (hn : ws.length ≤ 60) (hw : ∀ j, j < ws.length → 0 ≤ ws.getD j 0 ∧ ws.getD j 0 < 1000000) (hl : sh.length = ws.length) (hs : lsum sh = t)
    (hb : ∀ j, j < ws.length → 0 ≤ sh.getD j 0 ∧ sh.getD j 0 ≤ 1000000)
    (hq : ∀ j, j < ws.length → 0 < lsum ws → t * ws.getD j 0 / lsum ws ≤ sh.getD j 0 ∧ sh.getD j 0 ≤ (t * ws.getD j 0 + lsum ws - 1) / lsum ws) (n : Nat) :
    ∀ i : Nat, i + n = ws.length → Ev (fun k => customslaw03_ShareSum.l1 k t ws (lsum ws) (sumI (fun i => sh.getD i 0) i) sh 0 (i : Int)) true := by
  have hS := sumI_le (f := fun i => ws.getD i 0) (n := ws.length) (B := 1000000) (fun j hj => by have := hw j hj; omega)
  have hS2 : 0 ≤ lsum ws ∧ lsum ws ≤ 60000000 := by unfold lsum; omega
  induction n with
  | zero =>
    intro i g0
    obtain rfl : i = ws.length := by omega
    refine Ev.up ?_
    simp only [customslaw03_ShareSum.l1]
    refine Ev.neg (by omega) ?_
    refine Ev.up ?_
    simp only [customslaw03_ShareSum.j2, Bool.false_eq_true, if_false]
    refine Ev.congr (fun k => if_pos trivial) ?_
    refine Ev.pos (by omega) ?_
    refine Ev.pos (by rw [← hs]; unfold lsum; rw [hl]) ?_
    exact Ev.bind awake_ev (Ev.now _)
  | succ n ih =>
    intro i g0
    refine Ev.up ?_
    simp only [customslaw03_ShareSum.l1]
    refine Ev.pos (by omega) ?_
    rw [show decide ((i : Int) < (ws.length : Int)) = true from decide_eq_true (by omega)]
    refine Ev.up ?_
    simp only [customslaw03_ShareSum.j2, rd_nat, if_true]
    refine Ev.pos (by omega) (Ev.pos (by omega) ?_)
    have hbi := hb i (by omega)
    have hwi := hw i (by omega)
    have hp := sumI_le (f := fun i => sh.getD i 0) (n := i) (B := 1000000) (fun j hj => hb j (by omega))
    rw [w1_of i (by omega), w_sum (fun i => sh.getD i 0) i (by omega) (by omega)]
    have hnext := ih (i + 1) (by omega)
    refine Ev.ite (fun c => ?_) (fun c => hnext)
    obtain ⟨q1, q2⟩ := hq i (by omega) c
    have hm : 0 ≤ t * ws.getD i 0 ∧ t * ws.getD i 0 ≤ 1000000 * 1000000 := ⟨Int.mul_nonneg h0 hwi.1, Int.mul_le_mul (by omega) (by omega) hwi.1 (by omega)⟩
    have z1 : 0 ≤ t * ws.getD i 0 / lsum ws := Int.ediv_nonneg hm.1 (by omega)
    have z2 : t * ws.getD i 0 / lsum ws ≤ 1000000000000 := Int.le_trans (Int.ediv_le_self _ hm.1) (by omega)
    have z3 : 0 ≤ (t * ws.getD i 0 + lsum ws - 1) / lsum ws := Int.ediv_nonneg (by omega) (by omega)
    have z4 : (t * ws.getD i 0 + lsum ws - 1) / lsum ws ≤ 2000000000000 := Int.le_trans (Int.ediv_le_self _ (by omega)) (by omega)
    have e1 : wrap64 (t * ws.getD i 0) = t * ws.getD i 0 := wrap64_of (by omega) (by omega)
    have e2 : wrap64 (t * ws.getD i 0 + lsum ws) = t * ws.getD i 0 + lsum ws := wrap64_of (by omega) (by omega)
    have e3 : wrap64 (t * ws.getD i 0 + lsum ws - 1) = t * ws.getD i 0 + lsum ws - 1 := wrap64_of (by omega) (by omega)
    have e4 : Int.tdiv (t * ws.getD i 0) (lsum ws) = t * ws.getD i 0 / lsum ws := Int.tdiv_eq_ediv_of_nonneg hm.1
    have e5 : Int.tdiv (t * ws.getD i 0 + lsum ws - 1) (lsum ws) = (t * ws.getD i 0 + lsum ws - 1) / lsum ws := Int.tdiv_eq_ediv_of_nonneg (by omega)
    have e6 : wrap64 (t * ws.getD i 0 / lsum ws) = t * ws.getD i 0 / lsum ws := wrap64_of (by omega) (by omega)
    have e7 : wrap64 ((t * ws.getD i 0 + lsum ws - 1) / lsum ws) = (t * ws.getD i 0 + lsum ws - 1) / lsum ws := wrap64_of (by omega) (by omega)
    simp only [e1, e2, e3, e4, e5, e6, e7]
    clear e1 e2 e3 e4 e5 e6 e7
    exact Ev.pos (by omega) (Ev.neg (by omega) (Ev.neg (by omega) (Ev.neg (by omega) hnext)))
/- the whole part and the whole part with one more, told by the numbers -/
theorem quot_up {t w sm q r x : Int} (h : t * w = sm * q + r) (h0 : 0 < sm) (hx : x = 0 ∨ x = 1 ∧ 0 < r) (hr : 0 ≤ r) (hr1 : r < sm) : t * w / sm ≤ q + x ∧ q + x ≤ (t * w + sm - 1) / sm := by
  have e : t * w / sm = q := by rw [h, Int.add_comm, Int.add_mul_ediv_left _ _ (by omega), Int.ediv_eq_zero_of_lt hr hr1]; omega
  refine ⟨by omega, ?_⟩
  refine (Int.le_ediv_iff_mul_le h0).mpr ?_
  rw [h, Int.add_mul, Int.mul_comm q sm]
  rcases hx with rfl | ⟨rfl, hp⟩
  · omega
  · omega
theorem sum_l0 (t : Int) (h0 : 0 ≤ t) (h1 : t < 1000000) (n : Nat) : ∀ (i : Nat) (ws : List Int), i + n = ws.length → ws.length ≤ 60 → ws.all okW = true → (∀ j, j < i → ws.getD j 0 < 1000000) →
    Ev (fun k => customslaw03_ShareSum.l0 k t ws (sumI (fun i => ws.getD i 0) i) 0 (i : Int)) true := by
  induction n with
  | zero =>
    intro i ws g0 g1 g3 g4
    obtain rfl : i = ws.length := by omega
    refine Ev.up ?_
    simp only [customslaw03_ShareSum.l0]
    refine Ev.neg (by omega) (Ev.bind (share_ev t ws) ?_)
    by_cases c : 0 < ws.length
    · rw [share_ok (by omega) c h0 (by omega) g3]
      refine Ev.neg (by omega) ?_
      obtain ⟨s1, s2, s3⟩ := shW_sum ws c g3
      have hlen := shW_len (lsum ws) ws
      have hat : ∀ j, j < ws.length → (shOut t (shSum (lsum ws) ws) (shW (lsum ws) ws)).getD j 0 = shQ t (shSum (lsum ws) ws) (shW (lsum ws) ws) j + shX t (shSum (lsum ws) ws) (shW (lsum ws) ws) j := fun j hj => shOut_at _ _ _ j (by omega)
      refine sum_l1 t ws _ h0 h1 g1 (fun j hj => ⟨(ok_at g3 j hj).1, g4 j hj⟩) (by rw [shOut_len, hlen]) (shOut_sum t _ _ s1 s2 (by omega)) (fun j hj => ?_) (fun j hj hp => ?_) ws.length 0 (by omega)
      · rw [hat j hj]
        have a := shQ_range t _ (shW (lsum ws) ws) j s2 h0 (s3 j hj).1 (s3 j hj).2.2
        have b := shX_range t (shSum (lsum ws) ws) (shW (lsum ws) ws) j
        omega
      · rw [hat j hj]
        have e1 : shSum (lsum ws) ws = lsum ws := if_neg (by omega)
        have e2 : shW (lsum ws) ws = ws := if_neg (by omega)
        rw [e1, e2] at s1 ⊢
        have b := shX_range t (lsum ws) ws j
        refine quot_up (qr t (lsum ws) ws j) hp ?_ (Int.emod_nonneg _ (by omega)) (Int.emod_lt_of_pos _ hp)
        by_cases d : shX t (lsum ws) ws j = 0
        · exact .inl d
        · exact .inr ⟨by omega, shX_pos t (lsum ws) ws s1 hp c j hj (by omega)⟩
    · rw [share_none (by omega) h0 (by omega)]
      refine Ev.pos (by omega) ?_
      refine Ev.pos ?_ (Ev.bind awake_ev (Ev.now _))
      by_cases d : 0 < t
      · rw [if_pos d]; simp [d]
      · rw [if_neg d]; simp [d]
  | succ n ih =>
    intro i ws g0 g1 g3 g4
    refine Ev.up ?_
    simp only [customslaw03_ShareSum.l0, rd_nat]
    have hi := ok_at g3 i (by omega)
    refine Ev.pos (by omega) (Ev.pos (by omega) ?_)
    simp only [Option.bind_some, Int.toNat_natCast]
    rw [w1_of i (by omega), getD_set ws i _ (by omega), if_pos rfl, Int.tmod_eq_emod_of_nonneg hi.1]
    generalize hv : ws.getD i 0 % 1000000 = v
    have hv2 : 0 ≤ v ∧ v < 1000000 := by omega
    have hp := sumI_le (f := fun i => ws.getD i 0) (n := i) (B := 1000000) (fun j hj => by have := g4 j hj; have := ok_at g3 j (by omega); omega)
    have e0 : wrap64 (sumI (fun i => ws.getD i 0) i + v) = sumI (fun i => ws.getD i 0) i + v := wrap64_of (by omega) (by omega)
    rw [e0]
    clear e0
    have e : sumI (fun i => ws.getD i 0) i + v = sumI (fun j => (ws.set i v).getD j 0) (i + 1) := by
      simp only [sumI]
      rw [getD_set ws i v (by omega), if_pos rfl]
      congr 1
      exact sumI_congr fun j hj => by rw [getD_set ws i v (by omega), if_neg (by omega)]
    rw [e]
    refine ih (i + 1) (ws.set i v) (by rw [List.length_set]; omega) (by rw [List.length_set]; omega) (set_ok g3 i (by omega)) (fun j hj => ?_)
    rw [getD_set ws i v (by omega)]
    by_cases e : j = i
    · rw [if_pos e]; exact hv2.2
    · rw [if_neg e]; exact g4 j (by omega)
theorem ShareSum : customslaw03_ShareSum.Pure := by
  intro a0 l1 ha _ _ _
  refine Ev.rounds (r := true) ?_
  unfold customslaw03_ShareSum.f
  obtain ⟨t, e, h0, h1⟩ := total_is a0 (i64_of_wf ha) false
  obtain ⟨ws, hw, hn, hok⟩ := weights_ev l1 false
  rw [e]
  refine Ev.bind (a := t) (Ev.now _) ?_
  refine Ev.bind hw ?_
  rw [Int.tmod_eq_emod_of_nonneg h0]
  exact sum_l0 (t % 1000000) (by omega) (by omega) ws.length 0 ws (by omega) hn hok (fun j hj => absurd hj (by omega))
end Go.Proofs.Ytidonenkdibaoaa.Pure
end
