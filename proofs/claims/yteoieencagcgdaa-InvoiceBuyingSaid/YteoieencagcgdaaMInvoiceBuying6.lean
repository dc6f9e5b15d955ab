/- Texts of this session joined by a small program: plain Lean functions with the answers of Go functions of this seat, proofs that the machine's calls come to them, and plain laws over them that the claim InvoiceBuying uses. -/
import Derived.Below
import Derived.Deep.Draws
import Derived.Deep.AppendLies
import Derived.Maps.AppendAt
import Derived.OwnWalk
import Derived.Laws.BytesArg
import Derived.Laws.MakeOwn
import Derived.Laws.OwnMore
import Derived.Deep.OwnRows
import Derived.Tactics
import Derived.Lib.ConvBytes
import Derived.Laws.Slices
import Derived.WalkKit
import Derived.KernelRfl
import Derived.RowKit3
import Derived.Deep.LoopGhost
import Derived.Deep.QuietTactic
import Derived.BigQuiet
import Derived.WideLaws
import Derived.Deep.DeepCutAuto
import Derived.Deep.CutBlock
import Derived.Deep.RegionHeld3
import Derived.Laws.Rows
import Derived.Lib.AppendStr
import Derived.ArgAppend
import Derived.Laws.IdiomCopy
import Derived.RowKit
import Derived.OrdersHeld
import Derived.Laws.BitsLemmas
import Derived.Laws.StructEq
import Derived.Test.YteoieencagcgdaaProg
import Derived.RegionTactic
import Derived.Maps.Own
import Derived.Maps.OwnOps
import Derived.Maps.OwnSet
import Derived.Laws.Externs
import Derived.WalkLawsBesides
import Derived.Deep.RegionLaw
import Derived.IntWalk
import Derived.Laws.Bits64
import Derived.Sort.Walk0
import Derived.SizedLaws
import Derived.ChangeSlices
import Derived.Test.YteoieencagcgdaaMInvoiceBuying5
section
namespace Go.Proofs.Yteoieencagcgdaa.PX
open Go.RowKit Go.Proofs.YteoieencagcgdaaW.PrintWords Go.Proofs.YteoieencagcgdaaW.PrintLast Go.Proofs.YteoieencagcgdaaW.PrintMore
set_option linter.unusedVariables false
set_option linter.unusedSimpArgs false

def convS (t : List S61) (a : Int) (x : ByteArray) (day : Int) : Int × Int := crossS t a x ⟨#[69, 85, 82]⟩ day 2
theorem conv_rng (t : List S61) {a : Int} (x : ByteArray) (day : Int) (ha : 0 ≤ a) : 0 ≤ (convS t a x day).1 ∧ (convS t a x day).1 ≤ 1000000000000 := by
  have z : ∀ e : Int, 0 ≤ ((0, e) : Int × Int).1 ∧ ((0, e) : Int × Int).1 ≤ 1000000000000 := fun e => ⟨Int.le_refl 0, (by decide : (0 : Int) ≤ 1000000000000)⟩
  unfold convS crossS
  by_cases c : (atS t x day).2 = 0
  case neg => rw [if_neg c]; exact z _
  rw [if_pos c]
  by_cases d : (atS t ⟨#[69, 85, 82]⟩ day).2 = 0
  case neg => rw [if_neg d]; exact z _
  rw [if_pos d]
  have hp := at_rate c
  have hq := at_rate d
  generalize (atS t x day).1 = p at hp ⊢
  generalize (atS t ⟨#[69, 85, 82]⟩ day).1 = q at hq ⊢
  unfold scaleS
  by_cases g : a < -1000000000000 ∨ 1000000000000 < a ∨ (2 : Int) < 0 ∨ (3 : Int) < 2
  · rw [if_pos g]; exact z _
  rw [if_neg g]
  have hab : 0 ≤ iabs a := by unfold iabs; split <;> omega
  have hd := divS_pos (m := 2) (Int.mul_nonneg hab (show 0 ≤ p by omega)) (show 0 < q by omega)
  generalize divS (iabs a * p) q 2 = v at hd ⊢
  unfold signed
  by_cases w : v.2 = 0 ∧ v.1 ≤ 1000000000000
  · rw [if_pos w, if_neg (by omega)]; exact ⟨hd, w.2⟩
  · rw [if_neg w]; exact z _
theorem share_ok {t : Int} {ws : List Int} (hn : ws.length ≤ 1000) (hl : 0 < ws.length) (h0 : 0 ≤ t) (h1 : t ≤ 1000000000000) (h : ws.all okW = true) : shareS t ws = (shOut t (shSum (lsum ws) ws) (shW (lsum ws) ws), 0) := by
  unfold shareS
  rw [checkS_of hn h0 h1 h (fun z => by omega), if_pos ⟨rfl, hl⟩]
theorem share_good {t : Int} {ws : List Int} (hn : ws.length ≤ 1000) (hl : 0 < ws.length) (h0 : 0 ≤ t) (h1 : t ≤ 1000000000000) (h : ws.all okW = true) :
    (shareS t ws).1.length = ws.length ∧ ∀ i, i < ws.length → 0 ≤ (shareS t ws).1.getD i 0 ∧ (shareS t ws).1.getD i 0 ≤ 1000000000001 := by
  rw [share_ok hn hl h0 h1 h]
  obtain ⟨s1, s2, s3⟩ := shW_sum ws hl h
  refine ⟨by rw [shOut_len, shW_len], fun i hi => ?_⟩
  have b := s3 i hi
  have q := shQ_range t (shSum (lsum ws) ws) (shW (lsum ws) ws) i s2 h0 b.1 b.2.2
  have x := shX_range t (shSum (lsum ws) ws) (shW (lsum ws) ws) i
  show 0 ≤ (shOut t (shSum (lsum ws) ws) (shW (lsum ws) ws)).getD i 0 ∧ _
  rw [shOut_at _ _ _ i (by rw [shW_len]; exact hi)]
  omega
theorem ok_f0 {ls : List S35} (h : ls.all okL = true) : (ls.map (·.f0)).all okW = true := by
  rw [List.all_map]
  refine List.all_eq_true.mpr fun x hx => ?_
  have := (okL_iff x).mp (List.all_eq_true.mp h x hx)
  exact (okW_iff _).mpr ⟨this.1, this.2.1⟩
theorem ok_f1 {ls : List S35} (h : ls.all okL = true) : (ls.map (·.f1)).all okW = true := by
  rw [List.all_map]
  refine List.all_eq_true.mpr fun x hx => ?_
  have := (okL_iff x).mp (List.all_eq_true.mp h x hx)
  exact (okW_iff _).mpr ⟨this.2.2.1, (by omega : x.f1 ≤ 1000000000000)⟩
def sgn (a : Int) : Int := if a ≤ 5 then 1 else if a ≤ 8 then -1 else 0
theorem sign_is (a : Int) : valuation_sign.f a = some (sgn a) := by
  unfold valuation_sign.f sgn
  by_cases c : a ≤ 5
  · rw [if_pos c, if_pos c]
  · rw [if_neg c, if_neg c]
    by_cases d : a ≤ 8
    · rw [if_pos d, if_pos d]
    · rw [if_neg d, if_neg d]
theorem sgn_cases (a : Int) : sgn a = 1 ∧ a ≤ 5 ∨ sgn a = -1 ∧ 5 < a ∧ a ≤ 8 ∨ sgn a = 0 ∧ 8 < a := by
  unfold sgn
  by_cases c : a ≤ 5
  · rw [if_pos c]; omega
  · rw [if_neg c]
    by_cases d : a ≤ 8
    · rw [if_pos d]; omega
    · rw [if_neg d]; omega
def partS (ls : List S35) (c : S33) (n : Int) : List Int :=
  if c.f3 = 3 then (List.replicate ls.length 0).set c.f4.toNat n else (shareS n (if c.f3 = 2 then ls.map (·.f1) else ls.map (·.f0))).1
theorem part_good {ls : List S35} (hl : 0 < ls.length) (hn : ls.length ≤ 100) (ok : ls.all okL = true) (c : S33) {n : Int} (h0 : 0 ≤ n) (h1 : n ≤ 1000000000000) (h4 : 0 ≤ c.f4 ∧ c.f4 < ls.length) :
    (partS ls c n).length = ls.length ∧ ∀ i, i < ls.length → 0 ≤ (partS ls c n).getD i 0 ∧ (partS ls c n).getD i 0 ≤ 1000000000001 := by
  unfold partS
  by_cases c3 : c.f3 = 3
  · rw [if_pos c3]
    refine ⟨by simp, fun i hi => ?_⟩
    rw [getD_set _ _ _ (by rw [List.length_replicate]; omega)]
    by_cases e : i = c.f4.toNat
    · rw [if_pos e]; omega
    · rw [if_neg e, getD_of _ i (by rw [List.length_replicate]; exact hi), List.getElem_replicate]; omega
  · rw [if_neg c3]
    by_cases c2 : c.f3 = 2
    · rw [if_pos c2]
      have := share_good (ws := ls.map (·.f1)) (by simp; omega) (by simp; omega) h0 h1 (ok_f1 ok)
      rw [List.length_map] at this; exact this
    · rw [if_neg c2]
      have := share_good (ws := ls.map (·.f0)) (by simp; omega) (by simp; omega) h0 h1 (ok_f0 ok)
      rw [List.length_map] at this; exact this
theorem divide_ev (cu : ByteArray) (day : Int) (ls : List S35) (cs : List S33) (c : S33) (n : Int) (hn : ls.length ≤ 1000) (h4 : 0 ≤ c.f4 ∧ c.f4 < ls.length) :
    Ev (fun k => valuation_divide.f k cu day ls cs c.f0 c.f1 c.f2 c.f3 c.f4 n) (partS ls c n) := by
  unfold valuation_divide.f valuation_weights.f partS
  simp only [if_pos hn, Option.bind_some]
  by_cases c3 : c.f3 = 3
  · rw [if_pos c3]
    exact Ev.pos c3 (Ev.pos h4 (Ev.now _))
  · rw [if_neg c3]
    exact Ev.neg c3 (Ev.bind (share_ev n _) (Ev.now _))
def tailAdd (s : Int) (x p : List Int) (i : Nat) : List Int := (List.range x.length).map (fun j => if j < i then x.getD j 0 else x.getD j 0 + s * p.getD j 0)
theorem tailAdd_len (s : Int) (x p : List Int) (i : Nat) : (tailAdd s x p i).length = x.length := by unfold tailAdd; simp
theorem tailAdd_at (s : Int) (x p : List Int) (i j : Nat) (hj : j < x.length) : (tailAdd s x p i).getD j 0 = if j < i then x.getD j 0 else x.getD j 0 + s * p.getD j 0 := by
  unfold tailAdd
  rw [getD_of _ j (by simp; exact hj), List.getElem_map, List.getElem_range]
theorem tailAdd_end (s : Int) (x p : List Int) : tailAdd s x p x.length = x := by
  refine list_ext_getD (tailAdd_len _ _ _ _) (fun j hj => ?_)
  rw [tailAdd_len] at hj
  rw [tailAdd_at _ _ _ _ _ hj, if_pos hj]
theorem tailAdd_step (s : Int) (x p : List Int) (i : Nat) (hi : i < x.length) (v : Int) (hv : v = x.getD i 0 + s * p.getD i 0) : tailAdd s (x.set i v) p (i + 1) = tailAdd s x p i := by
  refine list_ext_getD (by rw [tailAdd_len, tailAdd_len, List.length_set]) (fun j hj => ?_)
  rw [tailAdd_len, List.length_set] at hj
  rw [tailAdd_at _ _ _ _ _ (by rw [List.length_set]; exact hj), tailAdd_at _ _ _ _ _ hj, getD_set _ _ _ hi]
  by_cases e : j = i
  · subst e; rw [if_pos rfl, if_pos (by omega), if_neg (by omega), hv]
  · rw [if_neg e]
    by_cases l : j < i
    · rw [if_pos (by omega), if_pos l]
    · rw [if_neg (by omega), if_neg l]
def Bnd (B : Int) (x : List Int) : Prop := ∀ j, j < x.length → -B ≤ x.getD j 0 ∧ x.getD j 0 ≤ B
theorem mul_sgn {s p : Int} (hs : s = 1 ∨ s = -1) (h0 : 0 ≤ p) (h1 : p ≤ 1000000000001) : -1000000000001 ≤ s * p ∧ s * p ≤ 1000000000001 := by
  rcases hs with rfl | rfl <;> omega
theorem Bnd.tail {B : Int} {x p : List Int} {s : Int} (h : Bnd B x) (hs : s = 1 ∨ s = -1) (hp : ∀ i, i < x.length → 0 ≤ p.getD i 0 ∧ p.getD i 0 ≤ 1000000000001) (i : Nat) : Bnd (B + 2000000000000) (tailAdd s x p i) := by
  intro j hj
  rw [tailAdd_len] at hj
  rw [tailAdd_at _ _ _ _ _ hj]
  have := h j hj
  have := mul_sgn hs (hp j hj).1 (hp j hj).2
  split <;> omega
theorem w17 (i : Nat) (h : i ≤ 4611686018427387903) : wrap64 ((i : Int) + 1) = ((i + 1 : Nat) : Int) := wrap64_of (by omega) (by omega)
def pos17 (v : Int) : Bool := decide (0 ≤ v)
def top17 (v : Int) : Bool := decide (v ≤ 1000000000000)
def checkedS (v : List Int) : List Int × Int := if v.all pos17 = true then (if v.all top17 = true then (v, 0) else ([], 3)) else ([], 12)
theorem drop_allB (f : Int → Bool) (l : List Int) (i : Nat) (h : i < l.length) : (l.drop i).all f = (f (l.getD i 0) && (l.drop (i + 1)).all f) := by
  rw [List.drop_eq_getElem_cons h, List.all_cons, getD_of l i h]
theorem checked_l1 (v : List Int) (hv : v.length ≤ 100) (n : Nat) : ∀ i : Nat, i + n = v.length → Ev (fun k => valuation_checked.l1 k v v (v.length : Int) (i : Int)) (if (v.drop i).all top17 = true then (v, 0) else ([], 3)) := by
  induction n with
  | zero =>
    intro i h
    obtain rfl : i = v.length := by omega
    refine Ev.up ?_
    simp only [valuation_checked.l1]
    rw [List.drop_length, List.all_nil, if_pos rfl]
    exact Ev.neg (by omega) (Ev.now _)
  | succ n ih =>
    intro i h
    refine Ev.up ?_
    simp only [valuation_checked.l1]
    rw [w17 i (by omega), drop_allB top17 v i (by omega), rd_nat]
    refine Ev.pos (by omega) (Ev.pos (by omega) (Ev.pos (by omega) ?_))
    refine Ev.ite (fun c => ?_) (fun c => ?_)
    · rw [show top17 (v.getD i 0) = false from decide_eq_false (by omega), Bool.false_and, if_neg (by decide)]; exact Ev.now _
    · rw [show top17 (v.getD i 0) = true from decide_eq_true (by omega), Bool.true_and]; exact ih (i + 1) (by omega)
theorem checked_l0 (v : List Int) (hv : v.length ≤ 100) (n : Nat) : ∀ i : Nat, i + n = v.length → Ev (fun k => valuation_checked.l0 k v v (v.length : Int) (i : Int)) (if (v.drop i).all pos17 = true then (if v.all top17 = true then (v, 0) else ([], 3)) else ([], 12)) := by
  induction n with
  | zero =>
    intro i h
    obtain rfl : i = v.length := by omega
    refine Ev.up ?_
    simp only [valuation_checked.l0]
    rw [List.drop_length, List.all_nil, if_pos rfl]
    have := checked_l1 v hv v.length 0 (by omega)
    simp only [List.drop_zero] at this
    exact Ev.neg (by omega) this
  | succ n ih =>
    intro i h
    refine Ev.up ?_
    simp only [valuation_checked.l0]
    rw [w17 i (by omega), drop_allB pos17 v i (by omega), rd_nat]
    refine Ev.pos (by omega) (Ev.pos (by omega) (Ev.pos (by omega) ?_))
    refine Ev.ite (fun c => ?_) (fun c => ?_)
    · rw [show pos17 (v.getD i 0) = false from decide_eq_false (by omega), Bool.false_and, if_neg (by decide)]; exact Ev.now _
    · rw [show pos17 (v.getD i 0) = true from decide_eq_true (by omega), Bool.true_and]; exact ih (i + 1) (by omega)
theorem checked_ev (v : List Int) (hv : v.length ≤ 100) : Ev (fun k => valuation_checked.f k v) (checkedS v) := by
  have := checked_l0 v hv v.length 0 (by omega)
  simp only [List.drop_zero] at this
  exact this
def chargesS (t : List S61) (day : Int) (ls : List S35) : List S33 → List Int → List Int × Int
  | [], v => checkedS v
  | c :: cs, v => if sgn c.f0 = 0 then chargesS t day ls cs v else if (convS t c.f1 c.f2 day).2 = 0 then chargesS t day ls cs (tailAdd (sgn c.f0) v (partS ls c (convS t c.f1 c.f2 day).1) 0) else ([], (convS t c.f1 c.f2 day).2)
theorem vals_l1 (t : List S61) (cu : ByteArray) (day : Int) (ls : List S35) (cs : List S33) (x58 : List S33) (x59 : Int) (q : Int) (p : List Int) (a0 a1 : Int) (a2 : ByteArray) (a3 a4 : Int) (hp1 : p.length ≤ 100) (hp : ∀ i, i < p.length → 0 ≤ p.getD i 0 ∧ p.getD i 0 ≤ 1000000000001) (hs : sgn a0 = 1 ∨ sgn a0 = -1) (Z : List Int × Int) (n : Nat) :
    ∀ (i : Nat) (x : List Int), i + n = p.length → x.length = p.length → (∀ j, i ≤ j → j < x.length → -200000000000000 ≤ x.getD j 0 ∧ x.getD j 0 ≤ 200000000000000) → Ev (fun k => valuation_Values.l0 k t (tailAdd (sgn a0) x p i) x58 x59 (wrap64 (q + 1)) cu day ls cs) Z →
      Ev (fun k => valuation_Values.l1 k t x x58 x59 q p (p.length : Int) (i : Int) cu day ls cs a0 a1 a2 a3 a4) Z := by
  induction n with
  | zero =>
    intro i x h hx _ hZ
    obtain rfl : i = p.length := by omega
    refine Ev.up ?_
    simp only [valuation_Values.l1]
    rw [← hx, tailAdd_end] at hZ
    exact Ev.neg (by omega) hZ
  | succ n ih =>
    intro i x h hx hb hZ
    refine Ev.up ?_
    simp only [valuation_Values.l1]
    have b := hb i (Nat.le_refl i) (by omega)
    have m := mul_sgn hs (hp i (by omega)).1 (hp i (by omega)).2
    rw [w17 i (by omega), rd_nat, rd_nat, sign_is, Int.toNat_natCast]
    simp only [Option.bind_some]
    rw [wrap64_of (x := sgn a0 * p.getD i 0) (by omega) (by omega), wrap64_of (x := x.getD i 0 + sgn a0 * p.getD i 0) (by omega) (by omega)]
    refine Ev.pos (by omega) (Ev.pos (by omega) (Ev.pos (by omega) (Ev.pos (by omega) ?_)))
    refine ih (i + 1) _ (by omega) (by rw [List.length_set]; exact hx) (fun j hj hl => ?_) ?_
    · rw [List.length_set] at hl
      rw [getD_set _ _ _ (by omega), if_neg (by omega)]
      exact hb j (by omega) hl
    · rw [tailAdd_step _ _ _ _ (by omega) _ rfl]
      exact hZ
theorem vals_l0 (t : List S61) (cu : ByteArray) (day : Int) (ls : List S35) (cs : List S33) (hl : 0 < ls.length) (hn : ls.length ≤ 100) (hc : cs.length ≤ 50) (okl : ls.all okL = true) (okc : cs.all (okC ls.length) = true) (hz : ∀ c ∈ cs, c.f2.size ≤ 140737488355327) (n : Nat) :
    ∀ (i : Nat) (v : List Int), i + n = cs.length → v.length = ls.length → Bnd (2000000000000 * (i + 1)) v → Ev (fun k => valuation_Values.l0 k t v cs (cs.length : Int) (i : Int) cu day ls cs) (chargesS t day ls (cs.drop i) v) := by
  induction n with
  | zero =>
    intro i v h hv hb
    obtain rfl : i = cs.length := by omega
    refine Ev.up ?_
    simp only [valuation_Values.l0]
    rw [List.drop_length]
    exact Ev.neg (by omega) (Ev.as (Ev.bind (checked_ev v (by omega)) (Ev.now _)) rfl)
  | succ n ih =>
    intro i v h hv hb
    refine Ev.up ?_
    simp only [valuation_Values.l0]
    rw [List.drop_eq_getElem_cons (by omega : i < cs.length), rdC_of cs i (by omega), sign_is]
    have hm : cs[i] ∈ cs := List.getElem_mem (by omega)
    have okci := of_decide_eq_true (List.all_eq_true.mp okc _ hm)
    have hzi := hz _ hm
    generalize cs[i] = c at okci hzi ⊢
    unfold goodC at okci
    simp only [Option.bind_some]
    refine Ev.pos (by omega) (Ev.pos (by omega) (Ev.pos (by omega) ?_))
    unfold chargesS
    have hb2 : Bnd (2000000000000 * ((i + 1 : Nat) + 1)) v := fun j hj => by have := hb j hj; omega
    by_cases s0 : sgn c.f0 = 0
    · rw [if_pos s0, w17 i (by omega)]
      exact Ev.pos s0 (ih (i + 1) v (by omega) hv hb2)
    rw [if_neg s0]
    refine Ev.neg s0 (Ev.bind (convert_ev t c.f1 c.f2 day 2 hzi) ?_)
    have cr := conv_rng t c.f2 day okci.2.2.2.2.1
    show Ev _ (if (convS t c.f1 c.f2 day).2 = 0 then _ else _)
    change Ev (fun k => if (convS t c.f1 c.f2 day).2 = 0 then _ else _) _
    by_cases e0 : (convS t c.f1 c.f2 day).2 = 0
    case neg => rw [if_neg e0]; exact Ev.neg e0 (Ev.now _)
    rw [if_pos e0]
    have h4 : 0 ≤ c.f4 ∧ c.f4 < (ls.length : Int) := ⟨okci.2.2.2.2.2.2.1, okci.2.2.2.2.2.2.2.1⟩
    have pg := part_good hl hn okl c cr.1 cr.2 h4
    have sg : sgn c.f0 = 1 ∨ sgn c.f0 = -1 := by have := sgn_cases c.f0; omega
    refine Ev.pos e0 (Ev.bind (divide_ev cu day ls cs c _ (by omega) h4) ?_)
    refine vals_l1 t cu day ls cs cs _ _ (partS ls c (convS t c.f1 c.f2 day).1) c.f0 c.f1 c.f2 c.f3 c.f4 (by omega) (by rw [pg.1]; exact pg.2) sg _ (partS ls c (convS t c.f1 c.f2 day).1).length 0 v (by omega) (by omega) (fun j _ hj => by have := hb j hj; omega) ?_
    rw [w17 i (by omega)]
    refine ih (i + 1) _ (by omega) (by rw [tailAdd_len]; exact hv) ?_
    have := Bnd.tail hb sg (by rw [hv]; exact pg.2) 0
    exact fun j hj => by have := this j hj; omega
def sumS (l : List Int) : Int × Int := if lsum l ≤ 1000000000000 then (lsum l, 0) else (0, 3)
theorem okW_amt {l : List Int} (h : l.all okW = true) : l.all inAmt = true := by
  refine List.all_eq_true.mpr fun x hx => ?_
  have := (okW_iff x).mp (List.all_eq_true.mp h x hx)
  unfold inAmt
  rw [decide_eq_true (by omega), decide_eq_true (by omega)]; rfl
theorem sum_j1 (l : List Int) (h0 : 0 ≤ lsum l) (h1 : lsum l ≤ 2000000000000000) (hi lo : Int) (he : hi * 1000000 + lo = lsum l) (hlo : 0 ≤ lo ∧ lo < 1000000) (h2 : hi ≤ 1000001) : Ev (fun k => money_Sum.j1 k hi lo false) (sumS l) := by
  refine Ev.up ?_
  simp only [money_Sum.j1]
  rw [wrap64_of (x := hi * 1000000) (by omega) (by omega), he, wrap64_of (x := lsum l) (by omega) (by omega)]
  refine Ev.neg (by decide) (Ev.bind (amounts_ev [lsum l] (by simp)) ?_)
  unfold sumS
  by_cases c : lsum l ≤ 1000000000000
  · rw [if_pos c]
    refine Ev.pos ?_ (Ev.now _)
    simp only [List.all_cons, List.all_nil, Bool.and_true]
    unfold inAmt
    rw [decide_eq_true (by omega), decide_eq_true (by omega)]; rfl
  · rw [if_neg c]
    refine Ev.neg ?_ (Ev.now _)
    simp only [List.all_cons, List.all_nil, Bool.and_true]
    unfold inAmt
    rw [decide_eq_false c, Bool.and_false]; decide
theorem sum_l0 (l : List Int) (hl : l.length ≤ 1000) (ok : l.all okW = true) (n : Nat) : ∀ i : Nat, i + n = l.length →
    Ev (fun k => money_Sum.l0 k (sumI (fun j => l.getD j 0 / 1000000) i) (sumI (fun j => l.getD j 0 % 1000000) i) l (l.length : Int) (i : Int)) (sumS l) := by
  have hq : ∀ i : Nat, i ≤ l.length → 0 ≤ sumI (fun j => l.getD j 0 / 1000000) i ∧ sumI (fun j => l.getD j 0 / 1000000) i ≤ (i : Int) * 1000000 := fun i hi => sumI_le (fun j hj => by have := ok_at ok j (by omega); omega)
  have hr : ∀ i : Nat, i ≤ l.length → 0 ≤ sumI (fun j => l.getD j 0 % 1000000) i ∧ sumI (fun j => l.getD j 0 % 1000000) i ≤ (i : Int) * 1000000 := fun i hi => sumI_le (fun j hj => by have := ok_at ok j (by omega); omega)
  induction n with
  | zero =>
    intro i h
    obtain rfl : i = l.length := by omega
    refine Ev.up ?_
    simp only [money_Sum.l0]
    have q := hq _ (Nat.le_refl _)
    have r := hr _ (Nat.le_refl _)
    have e : lsum l = sumI (fun j => l.getD j 0 / 1000000) l.length * 1000000 + sumI (fun j => l.getD j 0 % 1000000) l.length := by
      unfold lsum
      rw [Int.mul_comm, ← sumI_mul, ← sumI_add]
      exact sumI_congr (fun j _ => by omega)
    generalize sumI (fun j => l.getD j 0 / 1000000) l.length = Q at q e ⊢
    generalize sumI (fun j => l.getD j 0 % 1000000) l.length = R at r e ⊢
    rw [Int.tdiv_eq_ediv_of_nonneg r.1, Int.tmod_eq_emod_of_nonneg r.1, wrap64_of (x := R / 1000000) (by omega) (by omega), wrap64_of (x := Q + R / 1000000) (by omega) (by omega)]
    refine Ev.neg (by omega) (Ev.ite (fun c => ?_) (fun c => ?_))
    · unfold sumS
      rw [if_neg (by omega)]
      refine Ev.up ?_
      simp only [money_Sum.j1, if_true]
      exact Ev.now _
    · rw [decide_eq_false (by omega)]
      exact sum_j1 l (by omega) (by omega) _ _ (by omega) (by omega) (by omega)
  | succ n ih =>
    intro i h
    refine Ev.up ?_
    simp only [money_Sum.l0]
    have q := hq i (by omega)
    have r := hr i (by omega)
    have o := ok_at ok i (by omega)
    rw [rd_nat, w17 i (by omega), Int.tdiv_eq_ediv_of_nonneg o.1, Int.tmod_eq_emod_of_nonneg o.1, wrap64_of (x := l.getD i 0 / 1000000) (by omega) (by omega), wrap64_of (x := sumI (fun j => l.getD j 0 / 1000000) i + l.getD i 0 / 1000000) (by omega) (by omega), wrap64_of (x := sumI (fun j => l.getD j 0 % 1000000) i + l.getD i 0 % 1000000) (by omega) (by omega)]
    exact Ev.pos (by omega) (Ev.pos (by omega) (Ev.pos (by omega) (ih (i + 1) (by omega))))
theorem sum_ev (l : List Int) (hl : l.length ≤ 1000) (ok : l.all okW = true) : Ev (fun k => money_Sum.f k l) (sumS l) := by
  unfold money_Sum.f
  refine Ev.bind (amounts_ev l (by omega)) ?_
  exact Ev.pos (okW_amt ok) (sum_l0 l hl ok l.length 0 (by omega))
def goodS (t : List S61) (cu : ByteArray) (day : Int) (ls : List S35) (cs : List S33) : List Int × Int :=
  if lsum (ls.map (·.f0)) ≤ 1000000000000 then (if (convS t (lsum (ls.map (·.f0))) cu day).2 = 0 then chargesS t day ls cs (shareS (convS t (lsum (ls.map (·.f0))) cu day).1 (ls.map (·.f0))).1 else ([], (convS t (lsum (ls.map (·.f0))) cu day).2)) else ([], 3)
def valuesS (t : List S61) (cu : ByteArray) (day : Int) (ls : List S35) (cs : List S33) : List Int × Int := if invS day ls cs = 0 then goodS t cu day ls cs else ([], invS day ls cs)
structure Inv (day : Int) (ls : List S35) (cs : List S33) : Prop where
  l0 : 0 < ls.length
  l1 : ls.length ≤ 100
  c1 : cs.length ≤ 50
  d : 0 ≤ day ∧ day ≤ 36524
  okl : ls.all okL = true
  okc : cs.all (okC ls.length) = true
theorem invS_zero {day : Int} {ls : List S35} {cs : List S33} : invS day ls cs = 0 ↔ Inv day ls cs := by
  unfold invS
  by_cases c : ls.length = 0 ∨ 100 < ls.length ∨ 50 < cs.length
  · rw [if_pos c]; exact ⟨fun h => absurd h (by decide), fun h => by have := h.l0; have := h.l1; have := h.c1; omega⟩
  rw [if_neg c]
  by_cases d : 0 ≤ day ∧ day ≤ 36524 ∧ ls.all okL = true ∧ cs.all (okC ls.length) = true
  · rw [if_pos d]; exact ⟨fun _ => ⟨by omega, by omega, by omega, ⟨d.1, d.2.1⟩, d.2.2.1, d.2.2.2⟩, fun _ => rfl⟩
  · rw [if_neg d]; exact ⟨fun h => absurd h (by decide), fun h => absurd ⟨h.d.1, h.d.2, h.okl, h.okc⟩ d⟩
theorem first_good (t : List S61) (cu : ByteArray) {day : Int} {ls : List S35} {cs : List S33} (h : Inv day ls cs) :
    0 ≤ lsum (ls.map (·.f0)) ∧ (shareS (convS t (lsum (ls.map (·.f0))) cu day).1 (ls.map (·.f0))).1.length = ls.length ∧ Bnd 2000000000000 (shareS (convS t (lsum (ls.map (·.f0))) cu day).1 (ls.map (·.f0))).1 := by
  have ok := ok_f0 h.okl
  have h0 : 0 ≤ lsum (ls.map (·.f0)) := by
    have := sumI_le (f := fun i => (ls.map (·.f0)).getD i 0) (n := (ls.map (·.f0)).length) (B := 1000000000000) (fun i hi => ok_at ok i hi)
    exact this.1
  have cr := conv_rng t cu day h0
  have a := h.l0
  have b := h.l1
  have g := share_good (ws := ls.map (·.f0)) (by rw [List.length_map]; omega) (by rw [List.length_map]; omega) cr.1 cr.2 ok
  rw [List.length_map] at g
  refine ⟨h0, g.1, fun j hj => ?_⟩
  have := g.2 j (by omega)
  omega
theorem values_ev (t : List S61) (cu : ByteArray) (day : Int) (ls : List S35) (cs : List S33) (hu : cu.size ≤ 140737488355327) (hz : ∀ c ∈ cs, c.f2.size ≤ 140737488355327) :
    Ev (fun k => valuation_Values.f k t cu day ls cs) (valuesS t cu day ls cs) := by
  unfold valuation_Values.f valuesS
  refine Ev.bind (inv_ev cu day ls cs) ?_
  by_cases c : invS day ls cs = 0
  case neg => rw [if_neg c]; exact Ev.neg c (Ev.now _)
  rw [if_pos c]
  have h := invS_zero.mp c
  refine Ev.pos c ?_
  have hl := h.l1
  unfold valuation_weights.f goodS
  simp only [if_pos (show ls.length ≤ 1000 by omega), Option.bind_some]
  have ok := ok_f0 h.okl
  refine Ev.bind (sum_ev _ (by rw [List.length_map]; omega) ok) ?_
  have fg := first_good t cu h
  by_cases s : lsum (ls.map (·.f0)) ≤ 1000000000000
  case neg =>
    rw [show sumS (ls.map (·.f0)) = (0, 3) from if_neg s, if_neg s]
    exact Ev.neg (by decide) (Ev.now _)
  rw [show sumS (ls.map (·.f0)) = (lsum (ls.map (·.f0)), 0) from if_pos s, if_pos s]
  refine Ev.pos rfl (Ev.bind (convert_ev t _ cu day 2 hu) ?_)
  by_cases e : (convS t (lsum (ls.map (·.f0))) cu day).2 = 0
  case neg => rw [if_neg e]; exact Ev.neg e (Ev.now _)
  rw [if_pos e]
  refine Ev.pos e (Ev.bind (share_ev _ _) ?_)
  have := vals_l0 t cu day ls cs h.l0 h.l1 h.c1 h.okl h.okc hz cs.length 0 _ (by omega) fg.2.1 (fun j hj => by have := fg.2.2 j hj; omega)
  rw [List.drop_zero] at this
  exact this
end Go.Proofs.Yteoieencagcgdaa.PX
end
section
namespace Go.Proofs.Yteoieencagcgdaa.PX
open Go.RowKit Go.Proofs.YteoieencagcgdaaW.PrintWords Go.Proofs.YteoieencagcgdaaW.PrintLast Go.Proofs.YteoieencagcgdaaW.PrintMore
set_option linter.unusedVariables false
set_option linter.unusedSimpArgs false

theorem checkedS_good {v : List Int} (h : (checkedS v).2 = 0) : (checkedS v).1 = v ∧ v.all okW = true := by
  unfold checkedS at h ⊢
  by_cases a : v.all pos17 = true
  case neg => rw [if_neg a] at h; exact absurd h (by decide)
  rw [if_pos a] at h ⊢
  by_cases b : v.all top17 = true
  case neg => rw [if_neg b] at h; exact absurd h (by decide)
  rw [if_pos b]
  refine ⟨rfl, List.all_eq_true.mpr fun x hx => ?_⟩
  have x1 := of_decide_eq_true (List.all_eq_true.mp a x hx)
  have x2 := of_decide_eq_true (List.all_eq_true.mp b x hx)
  exact (okW_iff x).mpr ⟨x1, x2⟩
theorem charges_good (t : List S61) (day : Int) (ls : List S35) : ∀ (cs : List S33) (v : List Int), (chargesS t day ls cs v).2 = 0 → (chargesS t day ls cs v).1.length = v.length ∧ (chargesS t day ls cs v).1.all okW = true
  | [], v, h => by
    unfold chargesS at h ⊢
    have := checkedS_good h
    rw [this.1]; exact ⟨rfl, this.2⟩
  | c :: cs, v, h => by
    unfold chargesS at h ⊢
    by_cases s0 : sgn c.f0 = 0
    · rw [if_pos s0] at h ⊢; exact charges_good t day ls cs v h
    rw [if_neg s0] at h ⊢
    by_cases e : (convS t c.f1 c.f2 day).2 = 0
    · rw [if_pos e] at h ⊢
      have := charges_good t day ls cs _ h
      rw [tailAdd_len] at this; exact this
    · rw [if_neg e] at h; exact absurd h e
theorem values_good {t : List S61} {cu : ByteArray} {day : Int} {ls : List S35} {cs : List S33} (h : (valuesS t cu day ls cs).2 = 0) :
    Inv day ls cs ∧ lsum (ls.map (·.f0)) ≤ 1000000000000 ∧ (convS t (lsum (ls.map (·.f0))) cu day).2 = 0 ∧ valuesS t cu day ls cs = chargesS t day ls cs (shareS (convS t (lsum (ls.map (·.f0))) cu day).1 (ls.map (·.f0))).1 := by
  unfold valuesS at h ⊢
  by_cases c : invS day ls cs = 0
  case neg => rw [if_neg c] at h; exact absurd h c
  rw [if_pos c] at h ⊢
  unfold goodS at h ⊢
  by_cases s : lsum (ls.map (·.f0)) ≤ 1000000000000
  case neg => rw [if_neg s] at h; exact absurd h (by decide)
  rw [if_pos s] at h ⊢
  by_cases e : (convS t (lsum (ls.map (·.f0))) cu day).2 = 0
  case neg => rw [if_neg e] at h; exact absurd h e
  rw [if_pos e] at h ⊢
  exact ⟨invS_zero.mp c, s, e, rfl⟩
theorem values_ok {t : List S61} {cu : ByteArray} {day : Int} {ls : List S35} {cs : List S33} (h : (valuesS t cu day ls cs).2 = 0) : (valuesS t cu day ls cs).1.length = ls.length ∧ (valuesS t cu day ls cs).1.all okW = true := by
  obtain ⟨hi, _, _, e⟩ := values_good h
  have fg := first_good t cu hi
  rw [e] at h ⊢
  have := charges_good t day ls cs _ h
  rw [fg.2.1] at this; exact this
def totalS (t : List S61) (cu : ByteArray) (day : Int) (ls : List S35) (cs : List S33) : Int × Int := if (valuesS t cu day ls cs).2 = 0 then sumS (valuesS t cu day ls cs).1 else (0, (valuesS t cu day ls cs).2)
theorem total_ev (t : List S61) (cu : ByteArray) (day : Int) (ls : List S35) (cs : List S33) (hu : cu.size ≤ 140737488355327) (hz : ∀ c ∈ cs, c.f2.size ≤ 140737488355327) :
    Ev (fun k => valuation_Total.f k t cu day ls cs) (totalS t cu day ls cs) := by
  unfold valuation_Total.f totalS
  refine Ev.bind (values_ev t cu day ls cs hu hz) ?_
  by_cases c : (valuesS t cu day ls cs).2 = 0
  case neg => rw [if_neg c]; exact Ev.neg c (Ev.now _)
  rw [if_pos c]
  have g := values_ok c
  have := (values_good c).1.l1
  exact Ev.pos c (Ev.as (Ev.bind (sum_ev _ (by omega) g.2) (Ev.now _)) rfl)
end Go.Proofs.Yteoieencagcgdaa.PX
end
section
namespace Go.Proofs.Yteoieencagcgdaa.PX
open Go.RowKit Go.Proofs.YteoieencagcgdaaW.PrintWords Go.Proofs.YteoieencagcgdaaW.PrintLast Go.Proofs.YteoieencagcgdaaW.PrintMore
set_option linter.unusedVariables false
set_option linter.unusedSimpArgs false

def chain (p : Option S61) : List S61 → Prop
  | [] => True
  | x :: xs => okCode x.f0 = true ∧ ¬ badRow x ∧ (∀ q, p = some q → ¬ badTwo q x) ∧ chain (some x) xs
theorem chain_at : ∀ (t : List S61) (p : Option S61), chain p t → ∀ j : Nat, j < t.length → okCode (rd_T61 t j).f0 = true ∧ ¬ badRow (rd_T61 t j) ∧ (0 < j → ¬ badTwo (rd_T61 t ((j : Int) - 1)) (rd_T61 t j)) := by
  intro t
  induction t with
  | nil => intro p _ j hj; simp at hj
  | cons x xs ih =>
    intro p h j hj
    obtain ⟨h1, h2, h3, h4⟩ := h
    cases j with
    | zero => exact ⟨h1, h2, fun h => absurd h (by omega)⟩
    | succ j =>
      have e : rd_T61 (x :: xs) ((j + 1 : Nat) : Int) = rd_T61 xs j := by simp [rd_T61, List.getD]
      rw [e]
      obtain ⟨a, b, c⟩ := ih (some x) h4 j (by simpa using hj)
      refine ⟨a, b, fun _ => ?_⟩
      have e2 : ((j + 1 : Nat) : Int) - 1 = (j : Int) := by omega
      rw [e2]
      cases j with
      | zero =>
        cases xs with
        | nil => simp at hj
        | cons y ys => exact h4.2.2.1 x rfl
      | succ j =>
        have e3 : rd_T61 (x :: xs) ((j + 1 : Nat) : Int) = rd_T61 xs (((j + 1 : Nat) : Int) - 1) := by
          have : ((j + 1 : Nat) : Int) - 1 = (j : Int) := by omega
          rw [this]
          simp [rd_T61, List.getD]
        rw [e3]
        exact c (by omega)
theorem scan_all {t : List S61} {n : Nat} : ∀ {i : Int}, (∀ j : Int, i ≤ j → j < i + n → rowErr t j = 0) → scanN t n i = 0 := by
  induction n with
  | zero => intro i _; rfl
  | succ n ih =>
    intro i h
    rw [scan_ok (h i (by omega) (by omega))]
    exact ih (fun j h1 h2 => h j (by omega) (by omega))
theorem tab_chain {t : List S61} (hl : t.length ≤ 1000) (h : chain none t) : tabErr t = 0 := by
  unfold tabErr
  rw [if_neg (by omega)]
  refine scan_all fun j h1 h2 => ?_
  obtain ⟨i, rfl⟩ := Int.eq_ofNat_of_zero_le h1
  obtain ⟨a, b, c⟩ := chain_at t none h i (by omega)
  by_cases h0 : (i : Int) = 0
  · exact row0 a b h0
  · exact row00 a b h0 (c (by omega))
theorem chain_append : ∀ (a b : List S61) (p : Option S61), chain p a → (∀ p', (p' = p ∨ ∃ q ∈ a, p' = some q) → chain p' b) → chain p (a ++ b) := by
  intro a
  induction a with
  | nil => intro b p _ h; exact h p (.inl rfl)
  | cons x xs ih =>
    intro b p h hb
    obtain ⟨h1, h2, h3, h4⟩ := h
    refine ⟨h1, h2, h3, ih b (some x) h4 fun p' hp' => hb p' ?_⟩
    rcases hp' with rfl | ⟨q, hq, rfl⟩
    · exact .inr ⟨x, by simp, rfl⟩
    · exact .inr ⟨q, by simp [hq], rfl⟩
theorem src_rng (l : List Int) {m : Int} (hm : 0 < m) : 0 ≤ (srcNext l m).1 ∧ (srcNext l m).1 < m := by
  cases l with
  | nil => exact ⟨Int.le_refl _, hm⟩
  | cons x t => exact ⟨Int.emod_nonneg _ (by omega), Int.emod_lt_of_pos _ hm⟩
theorem tabRow_chain (cur : ByteArray) (hcur : okCode cur = true) (n : Nat) : ∀ (day : Int) (l : List Int) (p : Option S61), 0 ≤ day → day + 20 * n ≤ 36524 → (∀ q, p = some q → Op.bytesLess cur.toList q.f0.toList = false ∧ (cur.toList = q.f0.toList → q.f1 < day)) → chain p (tabRow cur n day l).1 := by
  induction n with
  | zero => intro day l p _ _ _; trivial
  | succ n ih =>
    intro day l p h0 h1 hp
    simp only [tabRow]
    have r1 := src_rng l (show (0 : Int) < 1000000000 by decide)
    have r2 := src_rng (srcNext l 1000000000).2 (show (0 : Int) < 20 by decide)
    refine ⟨hcur, ?_, ?_, ih _ _ _ (by omega) (by omega) ?_⟩
    · unfold badRow; simp only []; omega
    · intro q hq
      obtain ⟨a, b⟩ := hp q hq
      unfold badTwo
      simp only [a]
      intro h
      rcases h with h | ⟨h, h'⟩
      · exact absurd h (by decide)
      · have := b h; omega
    · intro q hq
      cases hq
      refine ⟨?_, fun _ => by simp only []; omega⟩
      rcases less_tri cur.toList cur.toList with h | h | h
      · exact absurd rfl h.2.1
      · exact h.2.1
      · exact absurd rfl h.2.1
theorem tabRow_mem (cur : ByteArray) (n : Nat) : ∀ (day : Int) (l : List Int), 0 ≤ day → (tabRow cur n day l).1.length = n ∧ ∀ q ∈ (tabRow cur n day l).1, q.f0 = cur ∧ 0 ≤ q.f1 ∧ q.f1 ≤ day + 20 * n := by
  induction n with
  | zero => intro day l _; exact ⟨rfl, fun q hq => absurd hq (by simp [tabRow])⟩
  | succ n ih =>
    intro day l h0
    simp only [tabRow]
    have r2 := src_rng (srcNext l 1000000000).2 (show (0 : Int) < 20 by decide)
    obtain ⟨a, b⟩ := ih (day + 1 + (srcNext (srcNext l 1000000000).2 20).1) (srcNext (srcNext l 1000000000).2 20).2 (by omega)
    refine ⟨by simp [a], fun q hq => ?_⟩
    rcases List.mem_cons.mp hq with rfl | hq
    · exact ⟨rfl, h0, by simp only []; omega⟩
    · obtain ⟨c, d, e⟩ := b q hq
      exact ⟨c, d, by omega⟩
theorem tabAll_chain : ∀ (cs : List ByteArray) (l : List Int) (p : Option S61), (∀ c ∈ cs, okCode c = true) → cs.Pairwise (fun a b => Op.bytesLess b.toList a.toList = false ∧ b.toList ≠ a.toList) → (∀ q, p = some q → ∀ c ∈ cs, Op.bytesLess c.toList q.f0.toList = false ∧ c.toList ≠ q.f0.toList) → chain p (tabAll cs l) := by
  intro cs
  induction cs with
  | nil => intro l p _ _ _; trivial
  | cons c cs ih =>
    intro l p h1 h2 h3
    simp only [tabAll]
    have r1 := src_rng l (show (0 : Int) < 20 by decide)
    have r2 := src_rng (srcNext l 20).2 (show (0 : Int) < 4 by decide)
    rw [List.pairwise_cons] at h2
    refine chain_append _ _ p (tabRow_chain c (h1 c (by simp)) _ _ _ _ r1.1 (by omega) fun q hq => ?_) ?_
    · obtain ⟨a, b⟩ := h3 q hq c (by simp)
      exact ⟨a, fun e => absurd e b⟩
    · intro p' hp'
      refine ih _ p' (fun x hx => h1 x (by simp [hx])) h2.2 fun q hq x hx => ?_
      rcases hp' with rfl | ⟨q', hq', rfl⟩
      · exact h3 q hq x (by simp [hx])
      · cases hq
        obtain ⟨e, _⟩ := (tabRow_mem c _ _ _ r1.1).2 q hq'
        rw [e]
        exact h2.1 x hx
theorem tabAll_mem : ∀ (cs : List ByteArray) (l : List Int), (tabAll cs l).length ≤ 3 * cs.length ∧ ∀ q ∈ tabAll cs l, q.f0 ∈ cs ∧ 0 ≤ q.f1 ∧ q.f1 < 100 := by
  intro cs
  induction cs with
  | nil => intro l; exact ⟨Nat.le_refl _, fun q hq => absurd hq (by simp [tabAll])⟩
  | cons c cs ih =>
    intro l
    simp only [tabAll]
    have r1 := src_rng l (show (0 : Int) < 20 by decide)
    have r2 := src_rng (srcNext l 20).2 (show (0 : Int) < 4 by decide)
    obtain ⟨a, b⟩ := tabRow_mem c (srcNext (srcNext l 20).2 4).1.toNat (srcNext l 20).1 (srcNext (srcNext l 20).2 4).2 r1.1
    obtain ⟨d, e⟩ := ih (tabRow c (srcNext (srcNext l 20).2 4).1.toNat (srcNext l 20).1 (srcNext (srcNext l 20).2 4).2).2
    refine ⟨by rw [List.length_append, a, List.length_cons]; omega, fun q hq => ?_⟩
    rcases List.mem_append.mp hq with hq | hq
    · obtain ⟨x, y, z⟩ := b q hq
      exact ⟨by rw [x]; simp, y, by omega⟩
    · obtain ⟨x, y, z⟩ := e q hq
      exact ⟨by simp [x], y, z⟩
theorem curs_ok : (∀ c ∈ curs, okCode c = true) ∧ curs.Pairwise (fun a b => Op.bytesLess b.toList a.toList = false ∧ b.toList ≠ a.toList) := by
  constructor
  · decide +kernel
  · decide +kernel
structure Made (t : List S61) : Prop where
  ok : chain none t
  len : t.length ≤ 9
  mem : ∀ q ∈ t, q.f0 ∈ curs ∧ 0 ≤ q.f1 ∧ q.f1 < 100
theorem table_is {l : List Int} (h : ∀ x ∈ l, (Lit.int .i64 x).wf = true) : ∃ t, customsmade_Table.f l = some t ∧ Made t := by
  refine ⟨_, if_pos ?_, tabAll_chain curs _ none curs_ok.1 curs_ok.2 (fun q hq => by cases hq), (tabAll_mem curs _).1, (tabAll_mem curs _).2⟩
  refine List.all_eq_true.mpr fun x hx => ?_
  have := i64_of_wf (h x hx)
  unfold rng64
  simp only [I64] at this
  simp only [Bool.and_eq_true, decide_eq_true_eq]
  omega
theorem Made.err {t : List S61} (h : Made t) : tabErr t = 0 := tab_chain (by have := h.len; omega) h.ok
theorem curs_size : ∀ c ∈ curs, c.size = 3 := by decide
theorem Made.size {t : List S61} (h : Made t) (i : Int) (h0 : 0 ≤ i) (h1 : i < t.length) : (rd_T61 t i).f0.size ≤ 9223372036854775807 := by
  obtain ⟨j, rfl⟩ := Int.eq_ofNat_of_zero_le h0
  have hm : rd_T61 t (j : Int) ∈ t := by
    have : j < t.length := by omega
    simp [rd_T61, List.getD, this]
  rw [curs_size _ (h.mem _ hm).1]
  decide
theorem within_ev {a b : Int} (ha : I64 a) (hb : 0 < b) (hb1 : b ≤ 4611686018427387904) : customsmade_Within.f a b = some (a % b) := within_is a b ha hb hb1
theorem currency_is {a : Int} (ha : I64 a) : ∃ s, customsmade_Currency.f a = some s ∧ s.size = 3 := by
  unfold customsmade_Currency.f
  rw [within_ev ha (by decide) (by decide)]
  simp only [Option.bind_some]
  have h1 := Int.emod_nonneg a (show (5 : Int) ≠ 0 by decide)
  have h2 := Int.emod_lt_of_pos a (show (0 : Int) < 5 by decide)
  generalize a % 5 = i at h1 h2
  rw [if_pos h1, if_pos (by simp only [List.length_cons, List.length_nil]; omega)]
  refine ⟨_, rfl, ?_⟩
  have : i = 0 ∨ i = 1 ∨ i = 2 ∨ i = 3 ∨ i = 4 := by omega
  rcases this with rfl | rfl | rfl | rfl | rfl <;> rfl
end Go.Proofs.Yteoieencagcgdaa.PX
end
section
namespace Go.Proofs.Yteoieencagcgdaa.PX
open Go.RowKit Go.Proofs.YteoieencagcgdaaW.PrintWords Go.Proofs.YteoieencagcgdaaW.PrintLast Go.Proofs.YteoieencagcgdaaW.PrintMore
set_option linter.unusedVariables false
set_option linter.unusedSimpArgs false

def errC (t : List S61) (day : Int) : List S33 → Int
  | [] => 0
  | c :: cs => if sgn c.f0 = 0 then errC t day cs else if (convS t c.f1 c.f2 day).2 = 0 then errC t day cs else (convS t c.f1 c.f2 day).2
def addC (t : List S61) (day : Int) (ls : List S35) : List S33 → List Int → List Int
  | [], v => v
  | c :: cs, v => if sgn c.f0 = 0 then addC t day ls cs v else addC t day ls cs (tailAdd (sgn c.f0) v (partS ls c (convS t c.f1 c.f2 day).1) 0)
theorem charges_is (t : List S61) (day : Int) (ls : List S35) : ∀ (cs : List S33) (v : List Int),
    chargesS t day ls cs v = if errC t day cs = 0 then checkedS (addC t day ls cs v) else ([], errC t day cs)
  | [], v => by unfold chargesS errC addC; rw [if_pos rfl]
  | c :: cs, v => by
    unfold chargesS errC addC
    by_cases s : sgn c.f0 = 0
    · rw [if_pos s, if_pos s, if_pos s]; exact charges_is t day ls cs v
    rw [if_neg s, if_neg s, if_neg s]
    by_cases e : (convS t c.f1 c.f2 day).2 = 0
    · rw [if_pos e, if_pos e]; exact charges_is t day ls cs _
    · rw [if_neg e, if_neg e, if_neg e]
theorem addC_append (t : List S61) (day : Int) (ls : List S35) (b : List S33) : ∀ (a : List S33) (v : List Int), addC t day ls (a ++ b) v = addC t day ls b (addC t day ls a v)
  | [], v => rfl
  | c :: a, v => by
    rw [List.cons_append]
    show (if sgn c.f0 = 0 then addC t day ls (a ++ b) v else addC t day ls (a ++ b) _) = addC t day ls b (if sgn c.f0 = 0 then addC t day ls a v else addC t day ls a _)
    by_cases s : sgn c.f0 = 0
    · rw [if_pos s, if_pos s]; exact addC_append t day ls b a v
    · rw [if_neg s, if_neg s]; exact addC_append t day ls b a _
theorem errC_append (t : List S61) (day : Int) (b : List S33) : ∀ (a : List S33), errC t day (a ++ b) = if errC t day a = 0 then errC t day b else errC t day a
  | [] => by show errC t day b = if (0 : Int) = 0 then _ else _; rw [if_pos rfl]
  | c :: a => by
    rw [List.cons_append]
    show (if sgn c.f0 = 0 then errC t day (a ++ b) else if (convS t c.f1 c.f2 day).2 = 0 then errC t day (a ++ b) else (convS t c.f1 c.f2 day).2) = if (if sgn c.f0 = 0 then errC t day a else if (convS t c.f1 c.f2 day).2 = 0 then errC t day a else (convS t c.f1 c.f2 day).2) = 0 then errC t day b else (if sgn c.f0 = 0 then errC t day a else if (convS t c.f1 c.f2 day).2 = 0 then errC t day a else (convS t c.f1 c.f2 day).2)
    by_cases s : sgn c.f0 = 0
    · rw [if_pos s, if_pos s]; exact errC_append t day b a
    · rw [if_neg s, if_neg s]
      by_cases e : (convS t c.f1 c.f2 day).2 = 0
      · rw [if_pos e, if_pos e]; exact errC_append t day b a
      · rw [if_neg e, if_neg e, if_neg e]
theorem values_congr {t : List S61} {cu : ByteArray} {day : Int} {ls : List S35} {cs cs' : List S33} (h : Inv day ls cs) (h' : Inv day ls cs') (he : errC t day cs = errC t day cs') (ha : ∀ v, v.length = ls.length → addC t day ls cs v = addC t day ls cs' v) : valuesS t cu day ls cs = valuesS t cu day ls cs' := by
  unfold valuesS
  rw [if_pos (invS_zero.mpr h), if_pos (invS_zero.mpr h')]
  unfold goodS
  rw [charges_is, charges_is, he, ha _ (first_good t cu h).2.1]
theorem Inv.snoc {day : Int} {ls : List S35} {cs a : List S33} (h : Inv day ls cs) (hn : cs.length + a.length ≤ 50) (ha : ∀ c ∈ a, goodC ls.length c.f0 c.f1 c.f3 c.f4) : Inv day ls (cs ++ a) :=
  ⟨h.l0, h.l1, by rw [List.length_append]; exact hn, h.d, h.okl, by rw [List.all_append, h.okc, Bool.true_and]; exact List.all_eq_true.mpr fun c hc => decide_eq_true (ha c hc)⟩
theorem divS_self {a p m : Int} (ha : 0 ≤ a ∧ a ≤ 1000000000000) (hp : 0 < p) (hm : 0 ≤ m ∧ m ≤ 3) : divS (a * p) p m = (a, 0) := by
  have h1 : a * p / p = a := Int.mul_ediv_cancel _ (by omega)
  have h2 : a * p % p = 0 := Int.mul_emod_left _ _
  have h3 : rdiv (a * p) p m = a := by
    unfold rdiv
    rw [h1, h2, show rup m a 0 p = false from ?_]
    · simp
    · unfold rup
      split
      · decide
      · split
        · exact decide_eq_false (by omega)
        · split
          · exact decide_eq_false (by omega)
          · rfl
  unfold divS
  rw [if_neg (by omega), h3, if_neg (by omega)]
theorem conv_eur {t : List S61} (h : tabErr t = 0) {day : Int} (hd : 0 ≤ day ∧ day ≤ 36524) {a : Int} (h0 : 0 ≤ a) (h1 : a ≤ 1000000000000) : convS t a ⟨#[69, 85, 82]⟩ day = (a, 0) := by
  have e : atS t ⟨#[69, 85, 82]⟩ day = (1000000, 0) := by
    unfold atS
    have := rate_eur h ⟨#[69, 85, 82]⟩ day (by decide +kernel) t.length (Nat.le_refl _)
    rw [List.take_length] at this
    rw [if_pos h, if_neg (by omega), this]
    rfl
  unfold convS crossS
  rw [e, if_pos rfl, if_pos rfl]
  unfold scaleS
  have hab : iabs a = a := if_neg (by omega)
  rw [if_neg (by omega), hab]
  show signed a (divS (a * 1000000) 1000000 2) = _
  rw [divS_self ⟨h0, h1⟩ (by decide) (by decide)]
  unfold signed
  rw [if_pos ⟨rfl, h1⟩, if_neg (by omega)]
theorem tail_back (v p : List Int) : tailAdd (-1) (tailAdd 1 v p 0) p 0 = v := by
  refine list_ext_getD (by rw [tailAdd_len, tailAdd_len]) (fun j hj => ?_)
  rw [tailAdd_len, tailAdd_len] at hj
  rw [tailAdd_at _ _ _ _ _ (by rw [tailAdd_len]; exact hj), tailAdd_at _ _ _ _ _ hj, if_neg (by omega), if_neg (by omega)]
  omega
end Go.Proofs.Yteoieencagcgdaa.PX
end
section
namespace Go.Proofs.Yteoieencagcgdaa.PX
open Go.RowKit Go.Proofs.YteoieencagcgdaaW.PrintWords Go.Proofs.YteoieencagcgdaaW.PrintLast Go.Proofs.YteoieencagcgdaaW.PrintMore
set_option linter.unusedVariables false
set_option linter.unusedSimpArgs false

theorem next_is {ys : List Int} (hlen : ys.length ≤ 9223372036854775807) (hx : ∀ x ∈ ys, Rng64 x) (j : Int) (j0 : 0 ≤ j) (j1 : j ≤ ys.length) (m : Int) (h0 : 0 < m) (h1 : m ≤ 4611686018427387904) :
    ∃ a j' : Int, customsmade_Source_Next.f ys j m = some (a, j') ∧ (0 ≤ a ∧ a < m) ∧ 0 ≤ j' ∧ j' ≤ ys.length := by
  obtain ⟨j, rfl⟩ := Int.eq_ofNat_of_zero_le j0
  by_cases hlt : j < ys.length
  · refine ⟨ys[j] % m, (j : Int) + 1, ?_, ⟨Int.emod_nonneg _ (by omega), Int.emod_lt_of_pos _ h0⟩, by omega, by omega⟩
    unfold customsmade_Source_Next.f
    have w1 : wrap64 ((j : Int) + 1) = (j : Int) + 1 := by unfold wrap64; omega
    have w2 : wrap64 ((j : Int) + 1 - 1) = (j : Int) := by unfold wrap64; omega
    have er : rd ys (j : Int) = ys[j] := by unfold rd; rw [Int.toNat_natCast, List.getD_eq_getElem?_getD, List.getElem?_eq_getElem hlt]; rfl
    rw [if_neg (by omega), w1, w2, if_pos (by omega), if_pos (by omega), er, within_is _ m (hx _ (List.getElem_mem hlt)) h0 h1]
    rfl
  · refine ⟨0, (j : Int), ?_, ⟨by omega, h0⟩, by omega, j1⟩
    unfold customsmade_Source_Next.f
    rw [if_pos (by omega)]
structure MadeI (cu : ByteArray) (day : Int) (ls : List S35) (cs : List S33) : Prop where
  inv : Inv day ls cs
  cu3 : cu.size = 3
  cz : ∀ c ∈ cs, c.f2.size = 3
  n6 : ls.length ≤ 6
  c5 : cs.length ≤ 5
theorem all_snoc {α : Type} (f : α → Bool) (l : List α) (x : α) (h : l.all f = true) (hx : f x = true) : (l ++ [x]).all f = true := by
  rw [List.all_append, h, List.all_cons, hx, List.all_nil]; rfl
theorem madeI_l1 (ys : List Int) (hlen : ys.length ≤ 9223372036854775807) (hx : ∀ x ∈ ys, Rng64 x) (cu : ByteArray) (day : Int) (ls : List S35) (hcu : cu.size = 3) (hd : 0 ≤ day ∧ day ≤ 36524) (h0 : 0 < ls.length) (h1 : ls.length ≤ 6) (okl : ls.all okL = true) (n : Nat) :
    ∀ (j : Int) (cs : List S33), 0 ≤ j → j ≤ ys.length → cs.length + n ≤ 5 → cs.all (okC ls.length) = true → (∀ c ∈ cs, c.f2.size = 3) →
      ∃ cs', Ev (fun k => customsmade_Invoice.l1 k (n : Int) ys j cu day ls cs) (cu, day, ls, cs') ∧ MadeI cu day ls cs' := by
  induction n with
  | zero =>
    intro j cs j0 j1 hc okc hz
    refine ⟨cs, Ev.up ?_, ⟨⟨h0, by omega, by omega, hd, okl, okc⟩, hcu, hz, h1, by omega⟩⟩
    simp only [customsmade_Invoice.l1]
    exact Ev.neg (by omega) (Ev.now _)
  | succ n ih =>
    intro j cs j0 j1 hc okc hz
    obtain ⟨a, ja, ea, ra, qa0, qa1⟩ := next_is hlen hx j j0 j1 9 (by decide) (by decide)
    obtain ⟨b, jb, eb, rb, qb0, qb1⟩ := next_is hlen hx ja qa0 qa1 5000 (by decide) (by decide)
    obtain ⟨c, jc, ec, rc, qc0, qc1⟩ := next_is hlen hx jb qb0 qb1 4 (by decide) (by decide)
    obtain ⟨s, es, sz⟩ := currency_is (a := c) ⟨by omega, by omega⟩
    obtain ⟨e, je, ee, re, qe0, qe1⟩ := next_is hlen hx jc qc0 qc1 3 (by decide) (by decide)
    obtain ⟨g, jg, eg, rg, qg0, qg1⟩ := next_is hlen hx je qe0 qe1 (ls.length : Int) (by omega) (by omega)
    have wa : wrap64 (1 + a) = 1 + a := wrap64_of (by omega) (by omega)
    have we : wrap64 (1 + e) = 1 + e := wrap64_of (by omega) (by omega)
    have wn : wrap64 (((n + 1 : Nat) : Int) - 1) = (n : Int) := by rw [wrap64_of (by omega) (by omega)]; omega
    have step : ∀ (line j' : Int), 0 ≤ j' → j' ≤ ys.length → 0 ≤ line → line < ls.length → (1 + e = 3 ∨ line = 0) → ∃ cs', Ev (fun k => customsmade_Invoice.l1 k (n : Int) ys j' cu day ls (cs ++ [(⟨1 + a, b, s, 1 + e, line⟩ : S33)])) (cu, day, ls, cs') ∧ MadeI cu day ls cs' := fun line j' k0 k1 k2 k3 k4 => by
      refine ih j' _ k0 k1 (by rw [List.length_append]; simp only [List.length_cons, List.length_nil]; omega) (all_snoc _ _ _ okc (decide_eq_true ?_)) (fun z hm => ?_)
      · unfold goodC; simp only []; omega
      · rcases List.mem_append.mp hm with hm | hm
        · exact hz z hm
        · rw [List.mem_singleton.mp hm]; exact sz
    have lim : cs.length < 2932031007402 := by omega
    by_cases d : 1 + e = 3
    · obtain ⟨cs', e1, m1⟩ := step g jg qg0 qg1 rg.1 rg.2 (.inl d)
      refine ⟨cs', Ev.up ?_, m1⟩
      simp only [customsmade_Invoice.l1, ea, eb, ec, es, ee, eg, Option.bind_some, wa, we, wn]
      exact Ev.pos (by omega) (Ev.pos d (Ev.pos lim e1))
    · obtain ⟨cs', e1, m1⟩ := step 0 je qe0 qe1 (by omega) (by omega) (.inr rfl)
      refine ⟨cs', Ev.up ?_, m1⟩
      simp only [customsmade_Invoice.l1, ea, eb, ec, es, ee, Option.bind_some, wa, we, wn]
      exact Ev.pos (by omega) (Ev.neg d (Ev.pos lim e1))
theorem madeI_l0 (ys : List Int) (hlen : ys.length ≤ 9223372036854775807) (hx : ∀ x ∈ ys, Rng64 x) (big : Bool) (cu : ByteArray) (day : Int) (hcu : cu.size = 3) (hd : 0 ≤ day ∧ day ≤ 36524) (n : Nat) :
    ∀ (j : Int) (ls : List S35), 0 ≤ j → j ≤ ys.length → 0 < ls.length + n → ls.length + n ≤ 6 → ls.all okL = true →
      ∃ ls' cs', Ev (fun k => customsmade_Invoice.l0 k big (n : Int) ys j cu day ls) (cu, day, ls', cs') ∧ MadeI cu day ls' cs' := by
  induction n with
  | zero =>
    intro j ls j0 j1 h0 h1 okl
    obtain ⟨a, ja, ea, ra, qa0, qa1⟩ := next_is hlen hx j j0 j1 6 (by decide) (by decide)
    obtain ⟨a, rfl⟩ := Int.eq_ofNat_of_zero_le ra.1
    obtain ⟨cs', e1, m1⟩ := madeI_l1 ys hlen hx cu day ls hcu hd (by omega) (by omega) okl a ja [] qa0 qa1 (by simp only [List.length_nil]; omega) rfl (fun c hc => by cases hc)
    refine ⟨ls, cs', Ev.up ?_, m1⟩
    simp only [customsmade_Invoice.l0, ea, Option.bind_some]
    exact Ev.neg (by omega) e1
  | succ n ih =>
    intro j ls j0 j1 h0 h1 okl
    obtain ⟨a, ja, ea, ra, qa0, qa1⟩ := next_is hlen hx j j0 j1 100000 (by decide) (by decide)
    obtain ⟨b, jb, eb, rb, qb0, qb1⟩ := next_is hlen hx ja qa0 qa1 50 (by decide) (by decide)
    obtain ⟨c, jc, ec, rc, qc0, qc1⟩ := next_is hlen hx jb qb0 qb1 1000000000001 (by decide) (by decide)
    have wn : wrap64 (((n + 1 : Nat) : Int) - 1) = (n : Int) := by rw [wrap64_of (by omega) (by omega)]; omega
    have step : ∀ (p j' : Int), 0 ≤ j' → j' ≤ ys.length → 0 ≤ p → p ≤ 1000000000000 → ∃ ls' cs', Ev (fun k => customsmade_Invoice.l0 k big (n : Int) ys j' cu day (ls ++ [(⟨p, b⟩ : S35)])) (cu, day, ls', cs') ∧ MadeI cu day ls' cs' := fun p j' k0 k1 k2 k3 =>
      ih j' _ k0 k1 (by rw [List.length_append]; simp only [List.length_cons, List.length_nil]; omega) (by rw [List.length_append]; simp only [List.length_cons, List.length_nil]; omega) (all_snoc _ _ _ okl ((okL_iff _).mpr ⟨k2, k3, rb.1, by show b ≤ _; omega⟩))
    have lim : ls.length < 8796093022208 := by omega
    cases big
    · obtain ⟨ls', cs', e1, m1⟩ := step a jb qb0 qb1 ra.1 (by omega)
      refine ⟨ls', cs', Ev.up ?_, m1⟩
      simp only [customsmade_Invoice.l0, ea, eb, Option.bind_some, wn]
      exact Ev.pos (by omega) (Ev.neg (by decide) (Ev.pos lim e1))
    · obtain ⟨ls', cs', e1, m1⟩ := step c jc qc0 qc1 rc.1 (by omega)
      refine ⟨ls', cs', Ev.up ?_, m1⟩
      simp only [customsmade_Invoice.l0, ea, eb, ec, Option.bind_some, wn]
      exact Ev.pos (by omega) (Ev.pos trivial (Ev.pos lim e1))
theorem madeI_ev {l : List Int} (h : ∀ x ∈ l, (Lit.int .i64 x).wf = true) : ∃ cu day ls cs, Ev (fun k => customsmade_Invoice.f k l) (cu, day, ls, cs) ∧ MadeI cu day ls cs := by
  have hx : ∀ x ∈ l.take 100, Rng64 x := fun x hm => rng_all (all_rng h) x (List.mem_of_mem_take hm)
  have hlen : (l.take 100).length ≤ 9223372036854775807 := by rw [List.length_take]; omega
  obtain ⟨a, ja, ea, ra, qa0, qa1⟩ := next_is hlen hx 0 (by omega) (by omega) 4 (by decide) (by decide)
  obtain ⟨s, es, sz⟩ := currency_is (a := a) ⟨by omega, by omega⟩
  obtain ⟨d, jd, ed, rd_, qd0, qd1⟩ := next_is hlen hx ja qa0 qa1 80 (by decide) (by decide)
  obtain ⟨b, jb, eb, rb, qb0, qb1⟩ := next_is hlen hx jd qd0 qd1 8 (by decide) (by decide)
  obtain ⟨n, jn, en, rn, qn0, qn1⟩ := next_is hlen hx jb qb0 qb1 6 (by decide) (by decide)
  obtain ⟨n, rfl⟩ := Int.eq_ofNat_of_zero_le rn.1
  obtain ⟨ls', cs', e1, m1⟩ := madeI_l0 (l.take 100) hlen hx (b == 1) s d sz ⟨rd_.1, by omega⟩ (n + 1) jn [] qn0 qn1 (by simp only [List.length_nil]; omega) (by simp only [List.length_nil]; omega) rfl
  refine ⟨s, d, ls', cs', ?_, m1⟩
  unfold customsmade_Invoice.f customsmade_Src.f
  simp only [Option.bind_some]
  rw [show (100 : Int).toNat = 100 from rfl, ea]
  simp only [Option.bind_some]
  rw [es]
  simp only [Option.bind_some]
  rw [ed]
  simp only [Option.bind_some]
  rw [eb]
  simp only [Option.bind_some]
  rw [en]
  simp only [Option.bind_some]
  rw [show wrap64 (1 + (n : Int)) = ((n + 1 : Nat) : Int) by rw [wrap64_of (by omega) (by omega)]; omega]
  exact e1
theorem charges_size {cu : ByteArray} {day : Int} {ls : List S35} {cs : List S33} (h : MadeI cu day ls cs) : ∀ c ∈ cs, c.f2.size ≤ 140737488355327 := fun c hc => by have := h.cz c hc; omega
theorem same17_l0 (l : List Int) (hl : l.length < 4611686018427387904) (n : Nat) : ∀ i : Nat, i + n = l.length → Ev (fun k => customsref02_Same.l0 k l l (i : Int)) true := by
  induction n with
  | zero =>
    intro i h
    obtain rfl : i = l.length := by omega
    refine Ev.up ?_
    simp only [customsref02_Same.l0]
    exact Ev.neg (by omega) (Ev.now _)
  | succ n ih =>
    intro i h
    refine Ev.up ?_
    simp only [customsref02_Same.l0]
    rw [w17 i (by omega)]
    exact Ev.pos (by omega) (Ev.pos (by omega) (Ev.pos (by omega) (Ev.pos trivial (ih (i + 1) (by omega)))))
theorem same17_ev (l : List Int) (hl : l.length < 4611686018427387904) : Ev (fun k => customsref02_Same.f k l l) true := by
  unfold customsref02_Same.f
  exact Ev.pos rfl (same17_l0 l hl l.length 0 (by omega))
theorem values_len (t : List S61) (cu : ByteArray) (day : Int) (ls : List S35) (cs : List S33) : (valuesS t cu day ls cs).1.length ≤ 100 := by
  have hg : ∀ (cs : List S33) (v : List Int), v.length ≤ 100 → (chargesS t day ls cs v).1.length ≤ 100 := by
    intro cs
    induction cs with
    | nil =>
      intro v hv
      unfold chargesS checkedS
      split
      · split
        · exact hv
        · exact Nat.zero_le _
      · exact Nat.zero_le _
    | cons c cs ih =>
      intro v hv
      unfold chargesS
      split
      · exact ih v hv
      · split
        · exact ih _ (by rw [tailAdd_len]; exact hv)
        · exact Nat.zero_le _
  unfold valuesS
  by_cases c : invS day ls cs = 0
  case neg => rw [if_neg c]; exact Nat.zero_le _
  rw [if_pos c]
  have hi := invS_zero.mp c
  have fg := first_good t cu hi
  have := hi.l1
  unfold goodS
  split
  · split
    · exact hg _ _ (by omega)
    · exact Nat.zero_le _
  · exact Nat.zero_le _
theorem awake17_ev : Ev (fun k => customslaw17_awake.f k) true := by
  unfold customslaw17_awake.f
  simp only [Option.bind_some]
  have hz : ∀ c ∈ [(⟨1, 10, (⟨#[69, 85, 82]⟩ : ByteArray), 1, 0⟩ : S33)], c.f2.size ≤ 140737488355327 := fun c hc => by rw [List.mem_singleton.mp hc]; decide
  refine Ev.bind (values_ev _ _ _ _ _ (by decide) hz) (Ev.bind (total_ev _ _ _ _ _ (by decide) hz) ?_)
  have e1 : valuesS [] ⟨#[69, 85, 82]⟩ 0 [(⟨100, 0⟩ : S35), ⟨200, 0⟩] [(⟨1, 10, (⟨#[69, 85, 82]⟩ : ByteArray), 1, 0⟩ : S33)] = ([103, 207], 0) := by decide +kernel
  have e2 : totalS [] ⟨#[69, 85, 82]⟩ 0 [(⟨100, 0⟩ : S35), ⟨200, 0⟩] [(⟨1, 10, (⟨#[69, 85, 82]⟩ : ByteArray), 1, 0⟩ : S33)] = (310, 0) := by
    unfold totalS; rw [e1]; decide +kernel
  rw [e1, e2]
  refine Ev.pos rfl (Ev.pos rfl (Ev.bind (same17_ev _ (by decide)) (Ev.pos rfl (Ev.pos rfl (Ev.as (Ev.bind (inv_ev _ _ _ _) (Ev.now _)) ?_)))))
  decide
end Go.Proofs.Yteoieencagcgdaa.PX
end
section
namespace Go.Proofs.Yteoieencagcgdaa.Pure
open Go.RowKit Go.Proofs.Yteoieencagcgdaa.PX Go.Proofs.YteoieencagcgdaaW.PrintWords Go.Proofs.YteoieencagcgdaaW.PrintLast Go.Proofs.YteoieencagcgdaaW.PrintMore
set_option linter.unusedVariables false
set_option linter.unusedSimpArgs false

theorem InvoiceBuying : customslaw17_InvoiceBuying.Pure := by
  intro l0 l1 a2 a3 _ _ h0 hm _ h1 h2 h3
  refine Ev.rounds ?_
  unfold customslaw17_InvoiceBuying.f
  obtain ⟨cu, day, ls, cs, e1, m⟩ := madeI_ev h1
  obtain ⟨t, ht, hmt⟩ := table_is h0
  obtain ⟨s, es, sz⟩ := currency_is (i64_of_wf h3)
  have hu : cu.size ≤ 140737488355327 := by have := m.cu3; omega
  have c5 := m.c5
  have n6 := m.n6
  have l0' := m.inv.l0
  have w0 := Int.emod_nonneg a2 (show (1000000 : Int) ≠ 0 by decide)
  have w1 := Int.emod_lt_of_pos a2 (show (0 : Int) < 1000000 by decide)
  have ew := within_ev (i64_of_wf h2) (show (0 : Int) < 1000000 by decide) (by decide)
  generalize a2 % 1000000 = n at w0 w1 ew
  refine Ev.bind e1 ?_
  simp only [ht, ew, es, Option.bind_some, List.nil_append, List.length_nil]
  have hz := charges_size m
  have i1 : Inv day ls (cs ++ [(⟨9, n, s, 1, 0⟩ : S33)]) := m.inv.snoc (by simp only [List.length_cons, List.length_nil]; omega) (fun c hc => by rw [List.mem_singleton.mp hc]; show goodC (ls.length : Int) 9 n 1 0; unfold goodC; omega)
  have i2 : Inv day ls (cs ++ [(⟨1, n, ⟨#[69, 85, 82]⟩, 2, 0⟩ : S33), ⟨6, n, ⟨#[69, 85, 82]⟩, 2, 0⟩]) := m.inv.snoc (by simp only [List.length_cons, List.length_nil]; omega) (fun c hc => by
    rcases List.mem_cons.mp hc with rfl | hc
    · show goodC (ls.length : Int) 1 n 2 0; unfold goodC; omega
    · rw [List.mem_singleton.mp hc]; show goodC (ls.length : Int) 6 n 2 0; unfold goodC; omega)
  have ce := conv_eur hmt.err m.inv.d w0 (show n ≤ 1000000000000 by omega)
  have v1 : valuesS t cu day ls (cs ++ [(⟨9, n, s, 1, 0⟩ : S33)]) = valuesS t cu day ls cs := by
    refine (values_congr m.inv i1 ?_ (fun v _ => ?_)).symm
    · rw [errC_append, show errC t day [(⟨9, n, s, 1, 0⟩ : S33)] = 0 from rfl]; split <;> omega
    · rw [addC_append]; rfl
  have v2 : valuesS t cu day ls (cs ++ [(⟨1, n, ⟨#[69, 85, 82]⟩, 2, 0⟩ : S33), ⟨6, n, ⟨#[69, 85, 82]⟩, 2, 0⟩]) = valuesS t cu day ls cs := by
    refine (values_congr m.inv i2 ?_ (fun v _ => ?_)).symm
    · have : errC t day [(⟨1, n, ⟨#[69, 85, 82]⟩, 2, 0⟩ : S33), ⟨6, n, ⟨#[69, 85, 82]⟩, 2, 0⟩] = 0 := by
        simp only [errC, ce]; rfl
      rw [errC_append, this]; split <;> omega
    · rw [addC_append]
      generalize addC t day ls cs v = u
      simp only [addC, ce]
      exact (tail_back u _).symm
  have hz1 : ∀ c ∈ cs ++ [(⟨9, n, s, 1, 0⟩ : S33)], c.f2.size ≤ 140737488355327 := fun c hc => by
    rcases List.mem_append.mp hc with hc | hc
    · exact hz c hc
    · rw [List.mem_singleton.mp hc]; show s.size ≤ _; omega
  have hz2 : ∀ c ∈ cs ++ [(⟨1, n, ⟨#[69, 85, 82]⟩, 2, 0⟩ : S33), ⟨6, n, ⟨#[69, 85, 82]⟩, 2, 0⟩], c.f2.size ≤ 140737488355327 := fun c hc => by
    rcases List.mem_append.mp hc with hc | hc
    · exact hz c hc
    · rcases List.mem_cons.mp hc with rfl | hc
      · exact (by decide : (⟨#[69, 85, 82]⟩ : ByteArray).size ≤ 140737488355327)
      · rw [List.mem_singleton.mp hc]; exact (by decide : (⟨#[69, 85, 82]⟩ : ByteArray).size ≤ 140737488355327)
  have hl := values_len t cu day ls cs
  refine Ev.bind (values_ev t cu day ls cs hu hz) (Ev.pos (by omega) (Ev.pos (by omega) (Ev.bind (values_ev t cu day ls _ hu hz1) ?_)))
  rw [v1]
  refine Ev.pos rfl (Ev.bind (same17_ev _ (by omega)) (Ev.up ?_))
  simp only [customslaw17_InvoiceBuying.j0, ew, Option.bind_some, List.nil_append, List.length_nil, Bool.not_true, Bool.false_eq_true, if_false]
  refine Ev.pos (by omega) (Ev.pos (by simp only [List.length_cons, List.length_nil]; omega) (Ev.bind (values_ev t cu day ls _ hu hz2) ?_))
  rw [v2]
  exact Ev.pos rfl (Ev.bind (same17_ev _ (by omega)) (Ev.pos rfl (Ev.bind awake17_ev (Ev.now _))))
end Go.Proofs.Yteoieencagcgdaa.Pure
end
section
namespace Go.Proofs.YteoieencagcgdaaW.PrintWords
open Go.ChangeShapes Go.WideShapes
theorem sized_ints {H : Type} {enc : TypeId × Value → H} {P : Program} {W : World} {base : Nat} {spare : Nat → Bool} {held : Bool} {t e : TypeId} {k : IntKind} {a : Option Addr} {len cap : Nat} {d : DataW H} {ps : List MemPlace} {ts : List TypeId} {ds : List (DataW H)} {j : Nat}
    (hsz : (DataW.weightsEach P ts ds).all (· ≤ reachBytes) = true) (ht : ts[j]? = some t) (hd : ds[j]? = some d) (hu : P.underlying t = some (.slice e)) (he : P.underlying e = some (.int k)) (hc : P.cellsOf e = 1) {B : Nat} (hB : P.bytesOf e = B)
    (h : DataW.Trod enc P W base spare held t (.slice a len cap) d ps) : len * B ≤ 140737488351232 := by
  obtain ⟨fuel, hf⟩ := h
  rcases open_ints hu he hc hf with ⟨hcs, _⟩ | ⟨x, l, c, zs, hcs, _, hl, _, hz, hx, _, _⟩
  · simp [Value.cells] at hcs
    obtain ⟨rfl, rfl, rfl⟩ := hcs
    simp
  · simp [Value.cells] at hcs
    obtain ⟨rfl, rfl, rfl⟩ := hcs
    obtain ⟨hx, _⟩ := Prod.mk.inj hx
    subst hx
    have z := sized_slice hsz ht hd hu
    rw [hB] at z
    have hl2 : len ≤ zs.length := by
      rw [hz]
      split
      · exact hl
      · exact Nat.le_refl _
    have h1 : (lits (H := H) k (zs.take len)).length + (lits (H := H) k (zs.drop len)).length = zs.length := by
      simp [lits]
      omega
    rw [h1] at z
    exact Nat.le_trans (Nat.mul_le_mul_right _ hl2) z
end Go.Proofs.YteoieencagcgdaaW.PrintWords
end
