/- Texts of this session joined by a small program: plain Lean functions with the answers of Go functions of this seat, proofs that the machine's calls come to them, and plain laws over them that the claim InvoiceTotal uses. -/
import Derived.Below
import Derived.Deep.Draws
import Derived.Deep.AppendLies
import Derived.Maps.AppendAt
import Derived.OwnWalk
import Derived.Laws.BytesArg
import Derived.Laws.MakeOwn
import Derived.Laws.OwnMore
import Derived.Deep.OwnRows
import Derived.Tactics
import Derived.Lib.ConvBytes
import Derived.Laws.Slices
import Derived.WalkKit
import Derived.KernelRfl
import Derived.RowKit3
import Derived.Deep.LoopGhost
import Derived.Deep.QuietTactic
import Derived.BigQuiet
import Derived.WideLaws
import Derived.Deep.DeepCutAuto
import Derived.Deep.CutBlock
import Derived.Deep.RegionHeld3
import Derived.Laws.Rows
import Derived.Lib.AppendStr
import Derived.ArgAppend
import Derived.Laws.IdiomCopy
import Derived.RowKit
import Derived.OrdersHeld
import Derived.Laws.BitsLemmas
import Derived.Laws.StructEq
import Derived.Test.YteoieencagcgdaaProg
import Derived.RegionTactic
import Derived.Maps.Own
import Derived.Maps.OwnOps
import Derived.Maps.OwnSet
import Derived.Laws.Externs
import Derived.WalkLawsBesides
import Derived.Deep.RegionLaw
import Derived.IntWalk
import Derived.Laws.Bits64
import Derived.Sort.Walk0
import Derived.SizedLaws
import Derived.ChangeSlices
import Derived.Test.YteoieencagcgdaaMInvoiceTotal5
section
namespace Go.Proofs.Yteoieencagcgdaa.PX
open Go.RowKit Go.Proofs.YteoieencagcgdaaW.PrintWords Go.Proofs.YteoieencagcgdaaW.PrintLast Go.Proofs.YteoieencagcgdaaW.PrintMore
set_option linter.unusedVariables false
set_option linter.unusedSimpArgs false

def chain (p : Option S61) : List S61 → Prop
  | [] => True
  | x :: xs => okCode x.f0 = true ∧ ¬ badRow x ∧ (∀ q, p = some q → ¬ badTwo q x) ∧ chain (some x) xs
theorem chain_append : ∀ (a b : List S61) (p : Option S61), chain p a → (∀ p', (p' = p ∨ ∃ q ∈ a, p' = some q) → chain p' b) → chain p (a ++ b) := by
  intro a
  induction a with
  | nil => intro b p _ h; exact h p (.inl rfl)
  | cons x xs ih =>
    intro b p h hb
    obtain ⟨h1, h2, h3, h4⟩ := h
    refine ⟨h1, h2, h3, ih b (some x) h4 fun p' hp' => hb p' ?_⟩
    rcases hp' with rfl | ⟨q, hq, rfl⟩
    · exact .inr ⟨x, by simp, rfl⟩
    · exact .inr ⟨q, by simp [hq], rfl⟩
theorem src_rng (l : List Int) {m : Int} (hm : 0 < m) : 0 ≤ (srcNext l m).1 ∧ (srcNext l m).1 < m := by
  cases l with
  | nil => exact ⟨Int.le_refl _, hm⟩
  | cons x t => exact ⟨Int.emod_nonneg _ (by omega), Int.emod_lt_of_pos _ hm⟩
theorem tabRow_chain (cur : ByteArray) (hcur : okCode cur = true) (n : Nat) : ∀ (day : Int) (l : List Int) (p : Option S61), 0 ≤ day → day + 20 * n ≤ 36524 → (∀ q, p = some q → Op.bytesLess cur.toList q.f0.toList = false ∧ (cur.toList = q.f0.toList → q.f1 < day)) → chain p (tabRow cur n day l).1 := by
  induction n with
  | zero => intro day l p _ _ _; trivial
  | succ n ih =>
    intro day l p h0 h1 hp
    simp only [tabRow]
    have r1 := src_rng l (show (0 : Int) < 1000000000 by decide)
    have r2 := src_rng (srcNext l 1000000000).2 (show (0 : Int) < 20 by decide)
    refine ⟨hcur, ?_, ?_, ih _ _ _ (by omega) (by omega) ?_⟩
    · unfold badRow; simp only []; omega
    · intro q hq
      obtain ⟨a, b⟩ := hp q hq
      unfold badTwo
      simp only [a]
      intro h
      rcases h with h | ⟨h, h'⟩
      · exact absurd h (by decide)
      · have := b h; omega
    · intro q hq
      cases hq
      refine ⟨?_, fun _ => by simp only []; omega⟩
      rcases less_tri cur.toList cur.toList with h | h | h
      · exact absurd rfl h.2.1
      · exact h.2.1
      · exact absurd rfl h.2.1
theorem tabRow_mem (cur : ByteArray) (n : Nat) : ∀ (day : Int) (l : List Int), 0 ≤ day → (tabRow cur n day l).1.length = n ∧ ∀ q ∈ (tabRow cur n day l).1, q.f0 = cur ∧ 0 ≤ q.f1 ∧ q.f1 ≤ day + 20 * n := by
  induction n with
  | zero => intro day l _; exact ⟨rfl, fun q hq => absurd hq (by simp [tabRow])⟩
  | succ n ih =>
    intro day l h0
    simp only [tabRow]
    have r2 := src_rng (srcNext l 1000000000).2 (show (0 : Int) < 20 by decide)
    obtain ⟨a, b⟩ := ih (day + 1 + (srcNext (srcNext l 1000000000).2 20).1) (srcNext (srcNext l 1000000000).2 20).2 (by omega)
    refine ⟨by simp [a], fun q hq => ?_⟩
    rcases List.mem_cons.mp hq with rfl | hq
    · exact ⟨rfl, h0, by simp only []; omega⟩
    · obtain ⟨c, d, e⟩ := b q hq
      exact ⟨c, d, by omega⟩
theorem tabAll_chain : ∀ (cs : List ByteArray) (l : List Int) (p : Option S61), (∀ c ∈ cs, okCode c = true) → cs.Pairwise (fun a b => Op.bytesLess b.toList a.toList = false ∧ b.toList ≠ a.toList) → (∀ q, p = some q → ∀ c ∈ cs, Op.bytesLess c.toList q.f0.toList = false ∧ c.toList ≠ q.f0.toList) → chain p (tabAll cs l) := by
  intro cs
  induction cs with
  | nil => intro l p _ _ _; trivial
  | cons c cs ih =>
    intro l p h1 h2 h3
    simp only [tabAll]
    have r1 := src_rng l (show (0 : Int) < 20 by decide)
    have r2 := src_rng (srcNext l 20).2 (show (0 : Int) < 4 by decide)
    rw [List.pairwise_cons] at h2
    refine chain_append _ _ p (tabRow_chain c (h1 c (by simp)) _ _ _ _ r1.1 (by omega) fun q hq => ?_) ?_
    · obtain ⟨a, b⟩ := h3 q hq c (by simp)
      exact ⟨a, fun e => absurd e b⟩
    · intro p' hp'
      refine ih _ p' (fun x hx => h1 x (by simp [hx])) h2.2 fun q hq x hx => ?_
      rcases hp' with rfl | ⟨q', hq', rfl⟩
      · exact h3 q hq x (by simp [hx])
      · cases hq
        obtain ⟨e, _⟩ := (tabRow_mem c _ _ _ r1.1).2 q hq'
        rw [e]
        exact h2.1 x hx
theorem tabAll_mem : ∀ (cs : List ByteArray) (l : List Int), (tabAll cs l).length ≤ 3 * cs.length ∧ ∀ q ∈ tabAll cs l, q.f0 ∈ cs ∧ 0 ≤ q.f1 ∧ q.f1 < 100 := by
  intro cs
  induction cs with
  | nil => intro l; exact ⟨Nat.le_refl _, fun q hq => absurd hq (by simp [tabAll])⟩
  | cons c cs ih =>
    intro l
    simp only [tabAll]
    have r1 := src_rng l (show (0 : Int) < 20 by decide)
    have r2 := src_rng (srcNext l 20).2 (show (0 : Int) < 4 by decide)
    obtain ⟨a, b⟩ := tabRow_mem c (srcNext (srcNext l 20).2 4).1.toNat (srcNext l 20).1 (srcNext (srcNext l 20).2 4).2 r1.1
    obtain ⟨d, e⟩ := ih (tabRow c (srcNext (srcNext l 20).2 4).1.toNat (srcNext l 20).1 (srcNext (srcNext l 20).2 4).2).2
    refine ⟨by rw [List.length_append, a, List.length_cons]; omega, fun q hq => ?_⟩
    rcases List.mem_append.mp hq with hq | hq
    · obtain ⟨x, y, z⟩ := b q hq
      exact ⟨by rw [x]; simp, y, by omega⟩
    · obtain ⟨x, y, z⟩ := e q hq
      exact ⟨by simp [x], y, z⟩
theorem curs_ok : (∀ c ∈ curs, okCode c = true) ∧ curs.Pairwise (fun a b => Op.bytesLess b.toList a.toList = false ∧ b.toList ≠ a.toList) := by
  constructor
  · decide +kernel
  · decide +kernel
structure Made (t : List S61) : Prop where
  ok : chain none t
  len : t.length ≤ 9
  mem : ∀ q ∈ t, q.f0 ∈ curs ∧ 0 ≤ q.f1 ∧ q.f1 < 100
theorem table_is {l : List Int} (h : ∀ x ∈ l, (Lit.int .i64 x).wf = true) : ∃ t, customsmade_Table.f l = some t ∧ Made t := by
  refine ⟨_, if_pos ?_, tabAll_chain curs _ none curs_ok.1 curs_ok.2 (fun q hq => by cases hq), (tabAll_mem curs _).1, (tabAll_mem curs _).2⟩
  refine List.all_eq_true.mpr fun x hx => ?_
  have := i64_of_wf (h x hx)
  unfold rng64
  simp only [I64] at this
  simp only [Bool.and_eq_true, decide_eq_true_eq]
  omega
theorem curs_size : ∀ c ∈ curs, c.size = 3 := by decide
theorem Made.size {t : List S61} (h : Made t) (i : Int) (h0 : 0 ≤ i) (h1 : i < t.length) : (rd_T61 t i).f0.size ≤ 9223372036854775807 := by
  obtain ⟨j, rfl⟩ := Int.eq_ofNat_of_zero_le h0
  have hm : rd_T61 t (j : Int) ∈ t := by
    have : j < t.length := by omega
    simp [rd_T61, List.getD, this]
  rw [curs_size _ (h.mem _ hm).1]
  decide
theorem within_ev {a b : Int} (ha : I64 a) (hb : 0 < b) (hb1 : b ≤ 4611686018427387904) : customsmade_Within.f a b = some (a % b) := within_is a b ha hb hb1
theorem currency_is {a : Int} (ha : I64 a) : ∃ s, customsmade_Currency.f a = some s ∧ s.size = 3 := by
  unfold customsmade_Currency.f
  rw [within_ev ha (by decide) (by decide)]
  simp only [Option.bind_some]
  have h1 := Int.emod_nonneg a (show (5 : Int) ≠ 0 by decide)
  have h2 := Int.emod_lt_of_pos a (show (0 : Int) < 5 by decide)
  generalize a % 5 = i at h1 h2
  rw [if_pos h1, if_pos (by simp only [List.length_cons, List.length_nil]; omega)]
  refine ⟨_, rfl, ?_⟩
  have : i = 0 ∨ i = 1 ∨ i = 2 ∨ i = 3 ∨ i = 4 := by omega
  rcases this with rfl | rfl | rfl | rfl | rfl <;> rfl
end Go.Proofs.Yteoieencagcgdaa.PX
end
section
namespace Go.Proofs.Yteoieencagcgdaa.PX
open Go.RowKit Go.Proofs.YteoieencagcgdaaW.PrintWords Go.Proofs.YteoieencagcgdaaW.PrintLast Go.Proofs.YteoieencagcgdaaW.PrintMore
set_option linter.unusedVariables false
set_option linter.unusedSimpArgs false

def errC (t : List S61) (day : Int) : List S33 → Int
  | [] => 0
  | c :: cs => if sgn c.f0 = 0 then errC t day cs else if (convS t c.f1 c.f2 day).2 = 0 then errC t day cs else (convS t c.f1 c.f2 day).2
def addC (t : List S61) (day : Int) (ls : List S35) : List S33 → List Int → List Int
  | [], v => v
  | c :: cs, v => if sgn c.f0 = 0 then addC t day ls cs v else addC t day ls cs (tailAdd (sgn c.f0) v (partS ls c (convS t c.f1 c.f2 day).1) 0)
theorem charges_is (t : List S61) (day : Int) (ls : List S35) : ∀ (cs : List S33) (v : List Int),
    chargesS t day ls cs v = if errC t day cs = 0 then checkedS (addC t day ls cs v) else ([], errC t day cs)
  | [], v => by unfold chargesS errC addC; rw [if_pos rfl]
  | c :: cs, v => by
    unfold chargesS errC addC
    by_cases s : sgn c.f0 = 0
    · rw [if_pos s, if_pos s, if_pos s]; exact charges_is t day ls cs v
    rw [if_neg s, if_neg s, if_neg s]
    by_cases e : (convS t c.f1 c.f2 day).2 = 0
    · rw [if_pos e, if_pos e]; exact charges_is t day ls cs _
    · rw [if_neg e, if_neg e, if_neg e]
theorem Inv.snoc {day : Int} {ls : List S35} {cs a : List S33} (h : Inv day ls cs) (hn : cs.length + a.length ≤ 50) (ha : ∀ c ∈ a, goodC ls.length c.f0 c.f1 c.f3 c.f4) : Inv day ls (cs ++ a) :=
  ⟨h.l0, h.l1, by rw [List.length_append]; exact hn, h.d, h.okl, by rw [List.all_append, h.okc, Bool.true_and]; exact List.all_eq_true.mpr fun c hc => decide_eq_true (ha c hc)⟩
end Go.Proofs.Yteoieencagcgdaa.PX
end
section
namespace Go.Proofs.Yteoieencagcgdaa.PX
open Go.RowKit Go.Proofs.YteoieencagcgdaaW.PrintWords Go.Proofs.YteoieencagcgdaaW.PrintLast Go.Proofs.YteoieencagcgdaaW.PrintMore
set_option linter.unusedVariables false
set_option linter.unusedSimpArgs false

theorem next_is {ys : List Int} (hlen : ys.length ≤ 9223372036854775807) (hx : ∀ x ∈ ys, Rng64 x) (j : Int) (j0 : 0 ≤ j) (j1 : j ≤ ys.length) (m : Int) (h0 : 0 < m) (h1 : m ≤ 4611686018427387904) :
    ∃ a j' : Int, customsmade_Source_Next.f ys j m = some (a, j') ∧ (0 ≤ a ∧ a < m) ∧ 0 ≤ j' ∧ j' ≤ ys.length := by
  obtain ⟨j, rfl⟩ := Int.eq_ofNat_of_zero_le j0
  by_cases hlt : j < ys.length
  · refine ⟨ys[j] % m, (j : Int) + 1, ?_, ⟨Int.emod_nonneg _ (by omega), Int.emod_lt_of_pos _ h0⟩, by omega, by omega⟩
    unfold customsmade_Source_Next.f
    have w1 : wrap64 ((j : Int) + 1) = (j : Int) + 1 := by unfold wrap64; omega
    have w2 : wrap64 ((j : Int) + 1 - 1) = (j : Int) := by unfold wrap64; omega
    have er : rd ys (j : Int) = ys[j] := by unfold rd; rw [Int.toNat_natCast, List.getD_eq_getElem?_getD, List.getElem?_eq_getElem hlt]; rfl
    rw [if_neg (by omega), w1, w2, if_pos (by omega), if_pos (by omega), er, within_is _ m (hx _ (List.getElem_mem hlt)) h0 h1]
    rfl
  · refine ⟨0, (j : Int), ?_, ⟨by omega, h0⟩, by omega, j1⟩
    unfold customsmade_Source_Next.f
    rw [if_pos (by omega)]
structure MadeI (cu : ByteArray) (day : Int) (ls : List S35) (cs : List S33) : Prop where
  inv : Inv day ls cs
  cu3 : cu.size = 3
  cz : ∀ c ∈ cs, c.f2.size = 3
  n6 : ls.length ≤ 6
  c5 : cs.length ≤ 5
theorem all_snoc {α : Type} (f : α → Bool) (l : List α) (x : α) (h : l.all f = true) (hx : f x = true) : (l ++ [x]).all f = true := by
  rw [List.all_append, h, List.all_cons, hx, List.all_nil]; rfl
theorem madeI_l1 (ys : List Int) (hlen : ys.length ≤ 9223372036854775807) (hx : ∀ x ∈ ys, Rng64 x) (cu : ByteArray) (day : Int) (ls : List S35) (hcu : cu.size = 3) (hd : 0 ≤ day ∧ day ≤ 36524) (h0 : 0 < ls.length) (h1 : ls.length ≤ 6) (okl : ls.all okL = true) (n : Nat) :
    ∀ (j : Int) (cs : List S33), 0 ≤ j → j ≤ ys.length → cs.length + n ≤ 5 → cs.all (okC ls.length) = true → (∀ c ∈ cs, c.f2.size = 3) →
      ∃ cs', Ev (fun k => customsmade_Invoice.l1 k (n : Int) ys j cu day ls cs) (cu, day, ls, cs') ∧ MadeI cu day ls cs' := by
  induction n with
  | zero =>
    intro j cs j0 j1 hc okc hz
    refine ⟨cs, Ev.up ?_, ⟨⟨h0, by omega, by omega, hd, okl, okc⟩, hcu, hz, h1, by omega⟩⟩
    simp only [customsmade_Invoice.l1]
    exact Ev.neg (by omega) (Ev.now _)
  | succ n ih =>
    intro j cs j0 j1 hc okc hz
    obtain ⟨a, ja, ea, ra, qa0, qa1⟩ := next_is hlen hx j j0 j1 9 (by decide) (by decide)
    obtain ⟨b, jb, eb, rb, qb0, qb1⟩ := next_is hlen hx ja qa0 qa1 5000 (by decide) (by decide)
    obtain ⟨c, jc, ec, rc, qc0, qc1⟩ := next_is hlen hx jb qb0 qb1 4 (by decide) (by decide)
    obtain ⟨s, es, sz⟩ := currency_is (a := c) ⟨by omega, by omega⟩
    obtain ⟨e, je, ee, re, qe0, qe1⟩ := next_is hlen hx jc qc0 qc1 3 (by decide) (by decide)
    obtain ⟨g, jg, eg, rg, qg0, qg1⟩ := next_is hlen hx je qe0 qe1 (ls.length : Int) (by omega) (by omega)
    have wa : wrap64 (1 + a) = 1 + a := wrap64_of (by omega) (by omega)
    have we : wrap64 (1 + e) = 1 + e := wrap64_of (by omega) (by omega)
    have wn : wrap64 (((n + 1 : Nat) : Int) - 1) = (n : Int) := by rw [wrap64_of (by omega) (by omega)]; omega
    have step : ∀ (line j' : Int), 0 ≤ j' → j' ≤ ys.length → 0 ≤ line → line < ls.length → (1 + e = 3 ∨ line = 0) → ∃ cs', Ev (fun k => customsmade_Invoice.l1 k (n : Int) ys j' cu day ls (cs ++ [(⟨1 + a, b, s, 1 + e, line⟩ : S33)])) (cu, day, ls, cs') ∧ MadeI cu day ls cs' := fun line j' k0 k1 k2 k3 k4 => by
      refine ih j' _ k0 k1 (by rw [List.length_append]; simp only [List.length_cons, List.length_nil]; omega) (all_snoc _ _ _ okc (decide_eq_true ?_)) (fun z hm => ?_)
      · unfold goodC; simp only []; omega
      · rcases List.mem_append.mp hm with hm | hm
        · exact hz z hm
        · rw [List.mem_singleton.mp hm]; exact sz
    have lim : cs.length < 2932031007402 := by omega
    by_cases d : 1 + e = 3
    · obtain ⟨cs', e1, m1⟩ := step g jg qg0 qg1 rg.1 rg.2 (.inl d)
      refine ⟨cs', Ev.up ?_, m1⟩
      simp only [customsmade_Invoice.l1, ea, eb, ec, es, ee, eg, Option.bind_some, wa, we, wn]
      exact Ev.pos (by omega) (Ev.pos d (Ev.pos lim e1))
    · obtain ⟨cs', e1, m1⟩ := step 0 je qe0 qe1 (by omega) (by omega) (.inr rfl)
      refine ⟨cs', Ev.up ?_, m1⟩
      simp only [customsmade_Invoice.l1, ea, eb, ec, es, ee, Option.bind_some, wa, we, wn]
      exact Ev.pos (by omega) (Ev.neg d (Ev.pos lim e1))
theorem madeI_l0 (ys : List Int) (hlen : ys.length ≤ 9223372036854775807) (hx : ∀ x ∈ ys, Rng64 x) (big : Bool) (cu : ByteArray) (day : Int) (hcu : cu.size = 3) (hd : 0 ≤ day ∧ day ≤ 36524) (n : Nat) :
    ∀ (j : Int) (ls : List S35), 0 ≤ j → j ≤ ys.length → 0 < ls.length + n → ls.length + n ≤ 6 → ls.all okL = true →
      ∃ ls' cs', Ev (fun k => customsmade_Invoice.l0 k big (n : Int) ys j cu day ls) (cu, day, ls', cs') ∧ MadeI cu day ls' cs' := by
  induction n with
  | zero =>
    intro j ls j0 j1 h0 h1 okl
    obtain ⟨a, ja, ea, ra, qa0, qa1⟩ := next_is hlen hx j j0 j1 6 (by decide) (by decide)
    obtain ⟨a, rfl⟩ := Int.eq_ofNat_of_zero_le ra.1
    obtain ⟨cs', e1, m1⟩ := madeI_l1 ys hlen hx cu day ls hcu hd (by omega) (by omega) okl a ja [] qa0 qa1 (by simp only [List.length_nil]; omega) rfl (fun c hc => by cases hc)
    refine ⟨ls, cs', Ev.up ?_, m1⟩
    simp only [customsmade_Invoice.l0, ea, Option.bind_some]
    exact Ev.neg (by omega) e1
  | succ n ih =>
    intro j ls j0 j1 h0 h1 okl
    obtain ⟨a, ja, ea, ra, qa0, qa1⟩ := next_is hlen hx j j0 j1 100000 (by decide) (by decide)
    obtain ⟨b, jb, eb, rb, qb0, qb1⟩ := next_is hlen hx ja qa0 qa1 50 (by decide) (by decide)
    obtain ⟨c, jc, ec, rc, qc0, qc1⟩ := next_is hlen hx jb qb0 qb1 1000000000001 (by decide) (by decide)
    have wn : wrap64 (((n + 1 : Nat) : Int) - 1) = (n : Int) := by rw [wrap64_of (by omega) (by omega)]; omega
    have step : ∀ (p j' : Int), 0 ≤ j' → j' ≤ ys.length → 0 ≤ p → p ≤ 1000000000000 → ∃ ls' cs', Ev (fun k => customsmade_Invoice.l0 k big (n : Int) ys j' cu day (ls ++ [(⟨p, b⟩ : S35)])) (cu, day, ls', cs') ∧ MadeI cu day ls' cs' := fun p j' k0 k1 k2 k3 =>
      ih j' _ k0 k1 (by rw [List.length_append]; simp only [List.length_cons, List.length_nil]; omega) (by rw [List.length_append]; simp only [List.length_cons, List.length_nil]; omega) (all_snoc _ _ _ okl ((okL_iff _).mpr ⟨k2, k3, rb.1, by show b ≤ _; omega⟩))
    have lim : ls.length < 8796093022208 := by omega
    cases big
    · obtain ⟨ls', cs', e1, m1⟩ := step a jb qb0 qb1 ra.1 (by omega)
      refine ⟨ls', cs', Ev.up ?_, m1⟩
      simp only [customsmade_Invoice.l0, ea, eb, Option.bind_some, wn]
      exact Ev.pos (by omega) (Ev.neg (by decide) (Ev.pos lim e1))
    · obtain ⟨ls', cs', e1, m1⟩ := step c jc qc0 qc1 rc.1 (by omega)
      refine ⟨ls', cs', Ev.up ?_, m1⟩
      simp only [customsmade_Invoice.l0, ea, eb, ec, Option.bind_some, wn]
      exact Ev.pos (by omega) (Ev.pos trivial (Ev.pos lim e1))
theorem madeI_ev {l : List Int} (h : ∀ x ∈ l, (Lit.int .i64 x).wf = true) : ∃ cu day ls cs, Ev (fun k => customsmade_Invoice.f k l) (cu, day, ls, cs) ∧ MadeI cu day ls cs := by
  have hx : ∀ x ∈ l.take 100, Rng64 x := fun x hm => rng_all (all_rng h) x (List.mem_of_mem_take hm)
  have hlen : (l.take 100).length ≤ 9223372036854775807 := by rw [List.length_take]; omega
  obtain ⟨a, ja, ea, ra, qa0, qa1⟩ := next_is hlen hx 0 (by omega) (by omega) 4 (by decide) (by decide)
  obtain ⟨s, es, sz⟩ := currency_is (a := a) ⟨by omega, by omega⟩
  obtain ⟨d, jd, ed, rd_, qd0, qd1⟩ := next_is hlen hx ja qa0 qa1 80 (by decide) (by decide)
  obtain ⟨b, jb, eb, rb, qb0, qb1⟩ := next_is hlen hx jd qd0 qd1 8 (by decide) (by decide)
  obtain ⟨n, jn, en, rn, qn0, qn1⟩ := next_is hlen hx jb qb0 qb1 6 (by decide) (by decide)
  obtain ⟨n, rfl⟩ := Int.eq_ofNat_of_zero_le rn.1
  obtain ⟨ls', cs', e1, m1⟩ := madeI_l0 (l.take 100) hlen hx (b == 1) s d sz ⟨rd_.1, by omega⟩ (n + 1) jn [] qn0 qn1 (by simp only [List.length_nil]; omega) (by simp only [List.length_nil]; omega) rfl
  refine ⟨s, d, ls', cs', ?_, m1⟩
  unfold customsmade_Invoice.f customsmade_Src.f
  simp only [Option.bind_some]
  rw [show (100 : Int).toNat = 100 from rfl, ea]
  simp only [Option.bind_some]
  rw [es]
  simp only [Option.bind_some]
  rw [ed]
  simp only [Option.bind_some]
  rw [eb]
  simp only [Option.bind_some]
  rw [en]
  simp only [Option.bind_some]
  rw [show wrap64 (1 + (n : Int)) = ((n + 1 : Nat) : Int) by rw [wrap64_of (by omega) (by omega)]; omega]
  exact e1
theorem charges_size {cu : ByteArray} {day : Int} {ls : List S35} {cs : List S33} (h : MadeI cu day ls cs) : ∀ c ∈ cs, c.f2.size ≤ 140737488355327 := fun c hc => by have := h.cz c hc; omega
theorem same17_l0 (l : List Int) (hl : l.length < 4611686018427387904) (n : Nat) : ∀ i : Nat, i + n = l.length → Ev (fun k => customsref02_Same.l0 k l l (i : Int)) true := by
  induction n with
  | zero =>
    intro i h
    obtain rfl : i = l.length := by omega
    refine Ev.up ?_
    simp only [customsref02_Same.l0]
    exact Ev.neg (by omega) (Ev.now _)
  | succ n ih =>
    intro i h
    refine Ev.up ?_
    simp only [customsref02_Same.l0]
    rw [w17 i (by omega)]
    exact Ev.pos (by omega) (Ev.pos (by omega) (Ev.pos (by omega) (Ev.pos trivial (ih (i + 1) (by omega)))))
theorem same17_ev (l : List Int) (hl : l.length < 4611686018427387904) : Ev (fun k => customsref02_Same.f k l l) true := by
  unfold customsref02_Same.f
  exact Ev.pos rfl (same17_l0 l hl l.length 0 (by omega))
theorem awake17_ev : Ev (fun k => customslaw17_awake.f k) true := by
  unfold customslaw17_awake.f
  simp only [Option.bind_some]
  have hz : ∀ c ∈ [(⟨1, 10, (⟨#[69, 85, 82]⟩ : ByteArray), 1, 0⟩ : S33)], c.f2.size ≤ 140737488355327 := fun c hc => by rw [List.mem_singleton.mp hc]; decide
  refine Ev.bind (values_ev _ _ _ _ _ (by decide) hz) (Ev.bind (total_ev _ _ _ _ _ (by decide) hz) ?_)
  have e1 : valuesS [] ⟨#[69, 85, 82]⟩ 0 [(⟨100, 0⟩ : S35), ⟨200, 0⟩] [(⟨1, 10, (⟨#[69, 85, 82]⟩ : ByteArray), 1, 0⟩ : S33)] = ([103, 207], 0) := by decide +kernel
  have e2 : totalS [] ⟨#[69, 85, 82]⟩ 0 [(⟨100, 0⟩ : S35), ⟨200, 0⟩] [(⟨1, 10, (⟨#[69, 85, 82]⟩ : ByteArray), 1, 0⟩ : S33)] = (310, 0) := by
    unfold totalS; rw [e1]; decide +kernel
  rw [e1, e2]
  refine Ev.pos rfl (Ev.pos rfl (Ev.bind (same17_ev _ (by decide)) (Ev.pos rfl (Ev.pos rfl (Ev.as (Ev.bind (inv_ev _ _ _ _) (Ev.now _)) ?_)))))
  decide
end Go.Proofs.Yteoieencagcgdaa.PX
end
section
namespace Go.Proofs.Yteoieencagcgdaa.Pure
open Go.RowKit Go.Proofs.Yteoieencagcgdaa.PX Go.Proofs.YteoieencagcgdaaW.PrintWords Go.Proofs.YteoieencagcgdaaW.PrintLast Go.Proofs.YteoieencagcgdaaW.PrintMore
set_option linter.unusedVariables false
set_option linter.unusedSimpArgs false

def key17 (c : S33) : Int × Int × ByteArray := (c.f0, c.f1, c.f2)
def wantK (t : List S61) (day : Int) : List (Int × Int × ByteArray) → Int
  | [] => 0
  | c :: cs => sgn c.1 * (convS t c.2.1 c.2.2 day).1 + wantK t day cs
def okK (t : List S61) (day : Int) : List (Int × Int × ByteArray) → Bool
  | [] => true
  | c :: cs => ((convS t c.2.1 c.2.2 day).2 == 0 || c.1 == 9) && okK t day cs
theorem lsum_tail (s : Int) (v p : List Int) (h : p.length = v.length) : lsum (tailAdd s v p 0) = lsum v + s * lsum p := by
  unfold lsum
  rw [tailAdd_len, h, ← sumI_mul, ← sumI_add]
  exact sumI_congr (fun j hj => by rw [tailAdd_at _ _ _ _ _ hj, if_neg (by omega)])
theorem sumI_at (f : Nat → Int) (j : Nat) (n : Nat) (hz : ∀ i, i < n → i ≠ j → f i = 0) : sumI f n = if j < n then f j else 0 := by
  induction n with
  | zero => rfl
  | succ n ih =>
    show sumI f n + f n = _
    rw [ih (fun i hi hne => hz i (by omega) hne)]
    by_cases e : n = j
    · subst e; rw [if_neg (by omega), if_pos (by omega)]; omega
    · rw [hz n (by omega) e]
      by_cases l : j < n
      · rw [if_pos l, if_pos (by omega)]; omega
      · rw [if_neg l, if_neg (by omega)]; omega
theorem lsum_share {n : Int} {ws : List Int} (hn : ws.length ≤ 1000) (hl : 0 < ws.length) (h0 : 0 ≤ n) (h1 : n ≤ 1000000000000) (h : ws.all okW = true) : lsum (shareS n ws).1 = n := by
  rw [share_ok hn hl h0 h1 h]
  obtain ⟨s1, s2, s3⟩ := shW_sum ws hl h
  exact shOut_sum n _ _ s1 s2 (by rw [shW_len]; exact hl)
theorem lsum_part {ls : List S35} (hl : 0 < ls.length) (hn : ls.length ≤ 100) (ok : ls.all okL = true) (c : S33) {n : Int} (h0 : 0 ≤ n) (h1 : n ≤ 1000000000000) (h4 : 0 ≤ c.f4 ∧ c.f4 < ls.length) : lsum (partS ls c n) = n := by
  unfold partS
  by_cases c3 : c.f3 = 3
  · rw [if_pos c3]
    unfold lsum
    have hr : c.f4.toNat < (List.replicate ls.length (0 : Int)).length := by rw [List.length_replicate]; omega
    have hz : ∀ i, i < ((List.replicate ls.length (0 : Int)).set c.f4.toNat n).length → i ≠ c.f4.toNat → ((List.replicate ls.length (0 : Int)).set c.f4.toNat n).getD i 0 = 0 := fun i hi hne => by
      rw [List.length_set, List.length_replicate] at hi
      rw [getD_set _ _ _ hr, if_neg hne, getD_of _ i (by rw [List.length_replicate]; exact hi), List.getElem_replicate]
    rw [sumI_at _ c.f4.toNat _ hz, if_pos (by rw [List.length_set]; exact hr), getD_set _ _ _ hr, if_pos rfl]
  · rw [if_neg c3]
    by_cases c2 : c.f3 = 2
    · rw [if_pos c2]; exact lsum_share (by rw [List.length_map]; omega) (by rw [List.length_map]; omega) h0 h1 (ok_f1 ok)
    · rw [if_neg c2]; exact lsum_share (by rw [List.length_map]; omega) (by rw [List.length_map]; omega) h0 h1 (ok_f0 ok)
theorem add_sum (t : List S61) (day : Int) {ls : List S35} (hl : 0 < ls.length) (hn : ls.length ≤ 100) (ok : ls.all okL = true) : ∀ (cs : List S33) (v : List Int), v.length = ls.length → (∀ c ∈ cs, goodC ls.length c.f0 c.f1 c.f3 c.f4) → errC t day cs = 0 →
    lsum (addC t day ls cs v) = lsum v + wantK t day (cs.map key17) ∧ okK t day (cs.map key17) = true
  | [], v, _, _, _ => by
    show lsum v = lsum v + 0 ∧ _
    exact ⟨by omega, rfl⟩
  | c :: cs, v, hv, hg, he => by
    have g := hg c List.mem_cons_self
    unfold goodC at g
    have hg' : ∀ c ∈ cs, goodC ls.length c.f0 c.f1 c.f3 c.f4 := fun d hd => hg d (List.mem_cons_of_mem _ hd)
    unfold errC at he
    rw [List.map_cons]
    show lsum (if sgn c.f0 = 0 then addC t day ls cs v else addC t day ls cs _) = lsum v + (sgn c.f0 * (convS t c.f1 c.f2 day).1 + wantK t day (cs.map key17)) ∧ (((convS t c.f1 c.f2 day).2 == 0 || c.f0 == 9) && okK t day (cs.map key17)) = true
    have sc := sgn_cases c.f0
    by_cases s0 : sgn c.f0 = 0
    · rw [if_pos s0] at he ⊢
      obtain ⟨i1, i2⟩ := add_sum t day hl hn ok cs v hv hg' he
      rw [i1, i2, s0, show (c.f0 == 9) = true from beq_iff_eq.mpr (by omega), Bool.or_true]
      exact ⟨by omega, rfl⟩
    rw [if_neg s0] at he ⊢
    by_cases e0 : (convS t c.f1 c.f2 day).2 = 0
    case neg => rw [if_neg e0] at he; exact absurd he e0
    rw [if_pos e0] at he
    have cr := conv_rng t c.f2 day g.2.2.2.2.1
    have h4 : 0 ≤ c.f4 ∧ c.f4 < (ls.length : Int) := ⟨g.2.2.2.2.2.2.1, g.2.2.2.2.2.2.2.1⟩
    have pg := part_good hl hn ok c cr.1 cr.2 h4
    obtain ⟨i1, i2⟩ := add_sum t day hl hn ok cs (tailAdd (sgn c.f0) v (partS ls c (convS t c.f1 c.f2 day).1) 0) (by rw [tailAdd_len]; exact hv) hg' he
    rw [i1, i2, lsum_tail _ _ _ (by rw [pg.1, hv]), lsum_part hl hn ok c cr.1 cr.2 h4, show ((convS t c.f1 c.f2 day).2 == 0) = true from beq_iff_eq.mpr e0, Bool.true_or]
    exact ⟨by omega, rfl⟩
theorem total_law {t : List S61} {cu : ByteArray} {day : Int} {ls : List S35} {cs : List S33} (h : (totalS t cu day ls cs).2 = 0) :
    (convS t (lsum (ls.map (·.f0))) cu day).2 = 0 ∧ okK t day (cs.map key17) = true ∧ (totalS t cu day ls cs).1 = (convS t (lsum (ls.map (·.f0))) cu day).1 + wantK t day (cs.map key17) := by
  unfold totalS at h ⊢
  by_cases c : (valuesS t cu day ls cs).2 = 0
  case neg => rw [if_neg c] at h; exact absurd h c
  rw [if_pos c] at h ⊢
  obtain ⟨hi, hs, hc, e⟩ := values_good c
  have fg := first_good t cu hi
  have hl := hi.l0
  have hn := hi.l1
  have cr := conv_rng t cu day fg.1
  rw [e, charges_is] at c
  rw [e, charges_is] at h ⊢
  by_cases ec : errC t day cs = 0
  case neg => rw [if_neg ec] at c; exact absurd c ec
  rw [if_pos ec] at c h ⊢
  have ck := checkedS_good c
  rw [ck.1] at h ⊢
  have hgood : ∀ c ∈ cs, goodC ls.length c.f0 c.f1 c.f3 c.f4 := fun d hd => of_decide_eq_true (List.all_eq_true.mp hi.okc d hd)
  obtain ⟨a1, a2⟩ := add_sum t day hl hn hi.okl cs _ fg.2.1 hgood ec
  refine ⟨hc, a2, ?_⟩
  unfold sumS at h ⊢
  by_cases z : lsum (addC t day ls cs (shareS (convS t (lsum (ls.map (·.f0))) cu day).1 (ls.map (·.f0))).1) ≤ 1000000000000
  case neg => rw [if_neg z] at h; exact absurd h (by decide)
  rw [if_pos z, a1, lsum_share (by rw [List.length_map]; omega) (by rw [List.length_map]; omega) cr.1 cr.2 (ok_f0 hi.okl)]
structure Kept17 (day : Int) (ls : List S35) (K : List (Int × Int × ByteArray)) (x : List S33) : Prop where
  inv : Inv day ls x
  k : x.map key17 = K
theorem Kept17.set {day : Int} {ls : List S35} {K : List (Int × Int × ByteArray)} {x : List S33} (h : Kept17 day ls K x) (i : Nat) (hi : i < x.length) (b e : Int) (hb : 1 ≤ b ∧ b ≤ 3) (he : 0 ≤ e ∧ e < (ls.length : Int)) (hbe : b = 3 ∨ e = 0) : Kept17 day ls K (x.set i ⟨x[i].f0, x[i].f1, x[i].f2, b, e⟩) := by
  refine ⟨⟨h.inv.l0, h.inv.l1, by rw [List.length_set]; exact h.inv.c1, h.inv.d, h.inv.okl, List.all_eq_true.mpr fun c hc => ?_⟩, ?_⟩
  · rcases List.mem_or_eq_of_mem_set hc with hc | rfl
    · exact List.all_eq_true.mp h.inv.okc c hc
    · have g := of_decide_eq_true (List.all_eq_true.mp h.inv.okc x[i] (List.getElem_mem hi))
      unfold goodC at g
      refine decide_eq_true ?_
      show goodC (ls.length : Int) x[i].f0 x[i].f1 b e
      unfold goodC
      omega
  · rw [List.map_set, ← h.k]
    show (x.map key17).set i (key17 x[i]) = x.map key17
    rw [show key17 x[i] = (x.map key17)[i]'(by rw [List.length_map]; exact hi) by rw [List.getElem_map], List.set_getElem_self]
theorem rdC_set (x : List S33) (i : Nat) (hi : i < x.length) (c : S33) : rd_T33 (x.set i c) (i : Int) = c := by
  rw [rdC_of _ i (by rw [List.length_set]; exact hi), List.getElem_set_self]
section
variable {a2 a3 : Int} (h3 : I64 a3) {t : List S61} {cu : ByteArray} {day : Int} {ls : List S35} {K : List (Int × Int × ByteArray)} (hu : cu.size ≤ 140737488355327) (hK : ∀ c ∈ K, c.2.2.size ≤ 140737488355327) (hlen : K.length ≤ 5) (l6 : ls.length ≤ 6) {ok : Bool} {want : Int}
  (hok : (convS t (lsum (ls.map (·.f0))) cu day).2 = 0 → okK t day K = true → ok = true) (hwant : (convS t (lsum (ls.map (·.f0))) cu day).2 = 0 → want = (convS t (lsum (ls.map (·.f0))) cu day).1 + wantK t day K)
include h3 hlen l6 in
theorem it_l3 (x20 : Int) (n : Nat) : ∀ (i : Nat) (x : List S33), i + n = x.length → Kept17 day ls K x → (∀ x' : List S33, Kept17 day ls K x' → Ev (fun k => customslaw17_InvoiceTotal.l2 k a2 a3 t ok want (wrap64 (x20 + 1)) cu day ls x') true) → Ev (fun k => customslaw17_InvoiceTotal.l3 k a2 a3 t ok want x20 (i : Int) cu day ls x) true := by
  induction n with
  | zero =>
    intro i x h hx hZ
    refine Ev.up ?_
    simp only [customslaw17_InvoiceTotal.l3]
    exact Ev.neg (by omega) (hZ x hx)
  | succ n ih =>
    intro i x h hx hZ
    have hi : i < x.length := by omega
    have l0 := hx.inv.l0
    have lx : x.length ≤ 5 := by rw [← hx.k, List.length_map] at hlen; exact hlen
    refine Ev.up ?_
    simp only [customslaw17_InvoiceTotal.l3]
    have hw : I64 (wrap64 (a2 + (i : Int))) := by unfold I64 wrap64; omega
    rw [within_ev hw (show (0 : Int) < 3 by decide) (by decide), within_ev h3 (show (0 : Int) < (ls.length : Int) by omega) (by omega), Int.toNat_natCast]
    have m0 := Int.emod_nonneg (wrap64 (a2 + (i : Int))) (show (3 : Int) ≠ 0 by decide)
    have m1 := Int.emod_lt_of_pos (wrap64 (a2 + (i : Int))) (show (0 : Int) < 3 by decide)
    generalize wrap64 (a2 + (i : Int)) % 3 = q at m0 m1
    have p0 := Int.emod_nonneg a3 (show (ls.length : Int) ≠ 0 by omega)
    have p1 := Int.emod_lt_of_pos a3 (show (0 : Int) < (ls.length : Int) by omega)
    generalize a3 % (ls.length : Int) = e at p0 p1
    simp only [Option.bind_some]
    rw [wrap64_of (x := 1 + q) (by omega) (by omega), w17 i (by omega), rdC_of x i hi]
    simp only [rdC_set x i hi, List.set_set]
    refine Ev.pos (by omega) (Ev.pos (by omega) (Ev.ite (fun b3 => ?_) (fun b3 => ?_)))
    · exact ih (i + 1) _ (by rw [List.length_set]; omega) (hx.set i hi (1 + q) e (by omega) ⟨p0, p1⟩ (.inl b3)) hZ
    · exact ih (i + 1) _ (by rw [List.length_set]; omega) (hx.set i hi (1 + q) 0 (by omega) (by omega) (.inr rfl)) hZ
include h3 hu hK hlen l6 hok hwant in
theorem it_l2 (n : Nat) : ∀ (i : Nat) (x : List S33), i + n = 2 → Kept17 day ls K x → Ev (fun k => customslaw17_InvoiceTotal.l2 k a2 a3 t ok want (i : Int) cu day ls x) true := by
  induction n with
  | zero =>
    intro i x h hx
    refine Ev.up ?_
    simp only [customslaw17_InvoiceTotal.l2]
    exact Ev.neg (by omega) (Ev.bind awake17_ev (Ev.now _))
  | succ n ih =>
    intro i x h hx
    have lx : x.length ≤ 5 := by have := hlen; rw [← hx.k, List.length_map] at this; exact this
    have hz : ∀ c ∈ x, c.f2.size ≤ 140737488355327 := fun c hc => hK (key17 c) (by rw [← hx.k]; exact List.mem_map_of_mem hc)
    have j4 : Ev (fun k => customslaw17_InvoiceTotal.j4 k a2 a3 t ok want (i : Int) false cu day ls x) true := by
      refine Ev.up ?_
      simp only [customslaw17_InvoiceTotal.j4, Bool.false_eq_true, if_false, Option.bind_some, List.nil_append, List.length_nil]
      refine Ev.pos (by omega) ?_
      refine it_l3 h3 hlen l6 (i : Int) x.length 0 x (by omega) hx (fun x' hx' => ?_)
      rw [w17 i (by omega)]
      exact ih (i + 1) x' (by omega) hx'
    refine Ev.up ?_
    simp only [customslaw17_InvoiceTotal.l2]
    refine Ev.pos (by omega) (Ev.bind (total_ev t cu day ls x hu hz) ?_)
    refine Ev.ite (fun g0 => ?_) (fun g0 => ?_)
    · obtain ⟨e1, e2, e3⟩ := total_law g0
      rw [hx.k] at e2 e3
      refine Ev.pos (hok e1 e2) (Ev.pos ?_ j4)
      rw [e3, hwant e1]
    · refine Ev.ite (fun _ => j4) (fun _ => ?_)
      rw [show ((totalS t cu day ls x).2 == 0) = false from by rw [Bool.eq_false_iff]; exact fun z => g0 (beq_iff_eq.mp z)]
      exact j4
end
theorem it_l1 (a2 a3 : Int) (t : List S61) (cu : ByteArray) (day : Int) (ls : List S35) (cs : List S33) (hc : cs.length ≤ 5) (hz : ∀ c ∈ cs, c.f2.size ≤ 140737488355327) (hg : ∀ c ∈ cs, 1 ≤ c.f0 ∧ c.f0 ≤ 9 ∧ 0 ≤ c.f1) (n : Nat) :
    ∀ (i : Nat) (ok : Bool) (want : Int), i + n = cs.length → -(1000000000000 * ((i : Int) + 1)) ≤ want → want ≤ 1000000000000 * ((i : Int) + 1) → Ev (fun k => customslaw17_InvoiceTotal.l2 k a2 a3 t (ok && okK t day ((cs.drop i).map key17)) (want + wantK t day ((cs.drop i).map key17)) 0 cu day ls cs) true → Ev (fun k => customslaw17_InvoiceTotal.l1 k a2 a3 t ok want (i : Int) cu day ls cs) true := by
  induction n with
  | zero =>
    intro i ok want h _ _ hZ
    obtain rfl : i = cs.length := by omega
    refine Ev.up ?_
    simp only [customslaw17_InvoiceTotal.l1]
    rw [List.drop_length] at hZ
    simp only [List.map_nil, okK, wantK, Bool.and_true, Int.add_zero] at hZ
    exact Ev.neg (by omega) hZ
  | succ n ih =>
    intro i ok want h b0 b1 hZ
    refine Ev.up ?_
    simp only [customslaw17_InvoiceTotal.l1]
    rw [List.drop_eq_getElem_cons (by omega : i < cs.length), List.map_cons] at hZ
    have hm : cs[i] ∈ cs := List.getElem_mem (by omega)
    have gi := hg _ hm
    have zi := hz _ hm
    have er := rdC_of cs i (by omega)
    rw [er]
    generalize hcd : cs[i] = c at gi zi er hZ ⊢
    have cr := conv_rng t c.f2 day gi.2.2
    have hZ' : Ev (fun k => customslaw17_InvoiceTotal.l2 k a2 a3 t (ok && (((convS t c.f1 c.f2 day).2 == 0 || c.f0 == 9) && okK t day ((cs.drop (i + 1)).map key17))) (want + (sgn c.f0 * (convS t c.f1 c.f2 day).1 + wantK t day ((cs.drop (i + 1)).map key17))) 0 cu day ls cs) true := hZ
    rw [← Bool.and_assoc, ← Int.add_assoc] at hZ'
    have go : ∀ ok' : Bool, ok' = (ok && ((convS t c.f1 c.f2 day).2 == 0 || c.f0 == 9)) → Ev (fun k => customslaw17_InvoiceTotal.j2 k a2 a3 t ok' want (i : Int) (convS t c.f1 c.f2 day).1 cu day ls cs) true := fun ok' e => by
      refine Ev.up ?_
      simp only [customslaw17_InvoiceTotal.j2]
      rw [er, w17 i (by omega), wrap64_of (x := want + (convS t c.f1 c.f2 day).1) (by omega) (by omega), wrap64_of (x := want - (convS t c.f1 c.f2 day).1) (by omega) (by omega)]
      rw [← e] at hZ'
      have sc := sgn_cases c.f0
      refine Ev.pos (by omega) (Ev.pos (by omega) (Ev.ite (fun k1 => ?_) (fun k1 => Ev.ite (fun k2 => ?_) (fun k2 => ?_))))
      · refine ih (i + 1) _ _ (by omega) (by omega) (by omega) ?_
        rw [show sgn c.f0 = 1 by omega, Int.one_mul] at hZ'; exact hZ'
      · refine ih (i + 1) _ _ (by omega) (by omega) (by omega) ?_
        rw [show sgn c.f0 = 0 by omega, Int.zero_mul, Int.add_zero] at hZ'; exact hZ'
      · refine ih (i + 1) _ _ (by omega) (by omega) (by omega) ?_
        rw [show sgn c.f0 = -1 by omega, show want + -1 * (convS t c.f1 c.f2 day).1 = want - (convS t c.f1 c.f2 day).1 by omega] at hZ'; exact hZ'
    refine Ev.pos (by omega) (Ev.pos (by omega) (Ev.bind (convert_ev t c.f1 c.f2 day 2 zi) ?_))
    change Ev (fun k => if ok = true then (if (convS t c.f1 c.f2 day).2 = 0 then customslaw17_InvoiceTotal.j2 k a2 a3 t true want (i : Int) (convS t c.f1 c.f2 day).1 cu day ls cs else customslaw17_InvoiceTotal.j2 k a2 a3 t (c.f0 == 9) want (i : Int) (convS t c.f1 c.f2 day).1 cu day ls cs) else customslaw17_InvoiceTotal.j2 k a2 a3 t false want (i : Int) (convS t c.f1 c.f2 day).1 cu day ls cs) true
    refine Ev.ite (fun o => Ev.ite (fun e => go _ ?_) (fun e => go _ ?_)) (fun o => go _ ?_)
    · rw [o, show ((convS t c.f1 c.f2 day).2 == 0) = true from beq_iff_eq.mpr e]; rfl
    · rw [o, show ((convS t c.f1 c.f2 day).2 == 0) = false from by rw [Bool.eq_false_iff]; exact fun z => e (beq_iff_eq.mp z), Bool.false_or, Bool.true_and]
    · rw [Bool.eq_false_iff.mpr o, Bool.false_and]
theorem it_l0 (a2 a3 : Int) (t : List S61) (cu : ByteArray) (day : Int) (ls : List S35) (cs : List S33) (hu : cu.size ≤ 140737488355327) (hl : ls.length ≤ 6) (okl : ls.all okL = true) (hZ : Ev (fun k => customslaw17_InvoiceTotal.l1 k a2 a3 t ((convS t (lsum (ls.map (·.f0))) cu day).2 == 0) (convS t (lsum (ls.map (·.f0))) cu day).1 0 cu day ls cs) true) (n : Nat) :
    ∀ (i : Nat), i + n = ls.length → Ev (fun k => customslaw17_InvoiceTotal.l0 k a2 a3 t (sumI (fun j => (ls.map (·.f0)).getD j 0) i) (i : Int) cu day ls cs) true := by
  have ok := ok_f0 okl
  have hsum : ∀ i : Nat, i ≤ ls.length → 0 ≤ sumI (fun j => (ls.map (·.f0)).getD j 0) i ∧ sumI (fun j => (ls.map (·.f0)).getD j 0) i ≤ (i : Int) * 1000000000000 := fun i hi => sumI_le (fun j hj => ok_at ok j (by rw [List.length_map]; omega))
  induction n with
  | zero =>
    intro i h
    obtain rfl : i = ls.length := by omega
    refine Ev.up ?_
    simp only [customslaw17_InvoiceTotal.l0]
    rw [show sumI (fun j => (ls.map (·.f0)).getD j 0) ls.length = lsum (ls.map (·.f0)) by unfold lsum; rw [List.length_map]]
    exact Ev.neg (by omega) (Ev.bind (convert_ev t _ cu day 2 hu) hZ)
  | succ n ih =>
    intro i h
    refine Ev.up ?_
    simp only [customslaw17_InvoiceTotal.l0]
    have s0 := hsum i (by omega)
    have o := ok_at ok i (by rw [List.length_map]; omega)
    rw [rdL_of ls i (by omega), show ls[i].f0 = (ls.map (·.f0)).getD i 0 by rw [getD_of _ i (by rw [List.length_map]; omega), List.getElem_map], w17 i (by omega), wrap64_of (x := sumI (fun j => (ls.map (·.f0)).getD j 0) i + (ls.map (·.f0)).getD i 0) (by omega) (by omega)]
    exact Ev.pos (by omega) (Ev.pos (by omega) (ih (i + 1) (by omega)))
theorem InvoiceTotal : customslaw17_InvoiceTotal.Pure := by
  intro l0 l1 a2 a3 _ _ h0 _ _ h1 h2 h3
  refine Ev.rounds ?_
  unfold customslaw17_InvoiceTotal.f
  obtain ⟨cu, day, ls, cs, e1, m⟩ := madeI_ev h1
  obtain ⟨t, ht, hmt⟩ := table_is h0
  have hu : cu.size ≤ 140737488355327 := by have := m.cu3; omega
  have c5 := m.c5
  have hgood : ∀ c ∈ cs, goodC ls.length c.f0 c.f1 c.f3 c.f4 := fun d hd => of_decide_eq_true (List.all_eq_true.mp m.inv.okc d hd)
  have fg := first_good t cu m.inv
  have cr := conv_rng t cu day fg.1
  refine Ev.bind e1 ?_
  simp only [ht, Option.bind_some]
  refine it_l0 a2 a3 t cu day ls cs hu m.n6 m.inv.okl ?_ ls.length 0 (by omega)
  refine it_l1 a2 a3 t cu day ls cs c5 (charges_size m) (fun c hc => by have g := hgood c hc; unfold goodC at g; omega) cs.length 0 _ _ (by omega) (by omega) (by omega) ?_
  rw [List.drop_zero]
  have := it_l2 (a2 := a2) (i64_of_wf h3) (t := t) (cu := cu) (day := day) (ls := ls) (K := cs.map key17) hu (fun c hc => by
      obtain ⟨d, hd, rfl⟩ := List.mem_map.mp hc
      exact charges_size m d hd) (by rw [List.length_map]; exact c5) m.n6 (ok := (convS t (lsum (ls.map (·.f0))) cu day).2 == 0 && okK t day (cs.map key17)) (want := (convS t (lsum (ls.map (·.f0))) cu day).1 + wantK t day (cs.map key17))
    (fun e f => by rw [f, show ((convS t (lsum (ls.map (·.f0))) cu day).2 == 0) = true from beq_iff_eq.mpr e]; rfl) (fun _ => rfl) 2 0 cs (by omega) ⟨m.inv, rfl⟩
  exact this
end Go.Proofs.Yteoieencagcgdaa.Pure
end
section
namespace Go.Proofs.YteoieencagcgdaaW.PrintWords
open Go.ChangeShapes Go.WideShapes
theorem sized_ints {H : Type} {enc : TypeId × Value → H} {P : Program} {W : World} {base : Nat} {spare : Nat → Bool} {held : Bool} {t e : TypeId} {k : IntKind} {a : Option Addr} {len cap : Nat} {d : DataW H} {ps : List MemPlace} {ts : List TypeId} {ds : List (DataW H)} {j : Nat}
    (hsz : (DataW.weightsEach P ts ds).all (· ≤ reachBytes) = true) (ht : ts[j]? = some t) (hd : ds[j]? = some d) (hu : P.underlying t = some (.slice e)) (he : P.underlying e = some (.int k)) (hc : P.cellsOf e = 1) {B : Nat} (hB : P.bytesOf e = B)
    (h : DataW.Trod enc P W base spare held t (.slice a len cap) d ps) : len * B ≤ 140737488351232 := by
  obtain ⟨fuel, hf⟩ := h
  rcases open_ints hu he hc hf with ⟨hcs, _⟩ | ⟨x, l, c, zs, hcs, _, hl, _, hz, hx, _, _⟩
  · simp [Value.cells] at hcs
    obtain ⟨rfl, rfl, rfl⟩ := hcs
    simp
  · simp [Value.cells] at hcs
    obtain ⟨rfl, rfl, rfl⟩ := hcs
    obtain ⟨hx, _⟩ := Prod.mk.inj hx
    subst hx
    have z := sized_slice hsz ht hd hu
    rw [hB] at z
    have hl2 : len ≤ zs.length := by
      rw [hz]
      split
      · exact hl
      · exact Nat.le_refl _
    have h1 : (lits (H := H) k (zs.take len)).length + (lits (H := H) k (zs.drop len)).length = zs.length := by
      simp [lits]
      omega
    rw [h1] at z
    exact Nat.le_trans (Nat.mul_le_mul_right _ hl2) z
end Go.Proofs.YteoieencagcgdaaW.PrintWords
end
