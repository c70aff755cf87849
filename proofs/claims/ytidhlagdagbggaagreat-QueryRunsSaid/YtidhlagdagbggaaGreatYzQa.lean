/- A part of the proof of statements of this seat: lemmas, no statement of their own. -/
import Derived.Test.YtidhlagdagbggaaGreatYzSrt
import Derived.Test.YtidhlagdagbggaaGreatYzPlc
import Derived.Test.YtidhlagdagbggaaGreatQrE
set_option linter.unusedVariables false
set_option maxRecDepth 100000
/- What pieces tell, plainly. -/
namespace Go.Q.Yz
abbrev Pc := S_api_Piece
/-- may a piece be? -/
def okP (p : Pc) : Bool := decide (1 ≤ p.f_Series.size) && decide (p.f_Series.size ≤ 200)
/-- which of two pieces of one place counts -/
def ordP (a b : Pc) : Int := orL [idsP a.f_Id b.f_Id, cI a.f_V b.f_V]
def plc (p : Pc) : S_piece_place := ⟨p.f_Series, p.f_T⟩
def ltP (a b : Pc) : Prop := cS a.f_Series b.f_Series < 0 ∨ a.f_Series = b.f_Series ∧ a.f_T < b.f_T
/-- of each place the piece that counts, in their order -/
structure IsMrg (l zs : List Pc) : Prop where
  srt : zs.Pairwise ltP
  mem : ∀ z, z ∈ zs ↔ z ∈ l ∧ okP z = true ∧ ∀ y ∈ l, okP y = true → plc y = plc z → ordP y z ≤ 0
theorem cS_self (a : ByteArray) : cS a a = 0 := by have := good_S.anti a a; omega
theorem cS_zero {a b : ByteArray} (h : cS a b = 0) : a = b := by
  rw [cS_eq] at h
  split at h
  · omega
  · split at h
    · omega
    · rename_i h1 h2
      exact ba_ext (List.le_antisymm (List.not_lt.1 h2) (List.not_lt.1 h1))
theorem ltP_irr (a : Pc) : ¬ ltP a a := by
  rintro (h | ⟨_, h⟩)
  · rw [cS_self] at h; omega
  · omega
theorem ltP_asymm {a b : Pc} (h : ltP a b) : ¬ ltP b a := by
  have e := good_S.anti a.f_Series b.f_Series
  rintro (h2 | ⟨h2, h3⟩)
  · rcases h with h | ⟨h, _⟩
    · omega
    · rw [h, cS_self] at h2; omega
  · rcases h with h | ⟨_, h⟩
    · rw [h2, cS_self] at h; omega
    · omega
theorem uniqP : ∀ {a b : List Pc}, a.Pairwise ltP → b.Pairwise ltP → (∀ z, z ∈ a ↔ z ∈ b) → a = b
  | [], [], _, _, _ => rfl
  | [], y :: b, _, _, h => by have := (h y).2 List.mem_cons_self; cases this
  | x :: a, [], _, _, h => by have := (h x).1 List.mem_cons_self; cases this
  | x :: a, y :: b, ha, hb, h => by
    obtain ⟨a1, a2⟩ := List.pairwise_cons.1 ha
    obtain ⟨b1, b2⟩ := List.pairwise_cons.1 hb
    have e : x = y := by
      rcases List.mem_cons.1 ((h x).1 List.mem_cons_self) with e | hx
      · exact e
      · rcases List.mem_cons.1 ((h y).2 List.mem_cons_self) with e | hy
        · exact e.symm
        · exact absurd (b1 x hx) (ltP_asymm (a1 y hy))
    subst e
    congr 1
    refine uniqP a2 b2 fun z => ⟨fun hz => ?_, fun hz => ?_⟩
    · rcases List.mem_cons.1 ((h z).1 (List.mem_cons_of_mem _ hz)) with e | hz2
      · subst e; exact absurd (a1 z hz) (ltP_irr z)
      · exact hz2
    · rcases List.mem_cons.1 ((h z).2 (List.mem_cons_of_mem _ hz)) with e | hz2
      · subst e; exact absurd (b1 z hz) (ltP_irr z)
      · exact hz2
/-- what is merged doesn't hang on the order -/
theorem IsMrg.uniq {l m a b : List Pc} (A : IsMrg l a) (B : IsMrg m b) (h : ∀ z, z ∈ l ↔ z ∈ m) : a = b :=
  uniqP A.srt B.srt fun z => by
    rw [A.mem, B.mem, h]
    exact ⟨fun ⟨p, q, r⟩ => ⟨p, q, fun y hy => r y ((h y).2 hy)⟩, fun ⟨p, q, r⟩ => ⟨p, q, fun y hy => r y ((h y).1 hy)⟩⟩
theorem IsMrg.sub {l zs : List Pc} (A : IsMrg l zs) : ∀ z ∈ zs, z ∈ l := fun z hz => ((A.mem z).1 hz).1
theorem nodup_len {α : Type} [DecidableEq α] : ∀ {a l : List α}, a.Nodup → (∀ z ∈ a, z ∈ l) → a.length ≤ l.length
  | [], l, _, _ => by simp
  | x :: a, l, h, s => by
    obtain ⟨h1, h2⟩ := List.nodup_cons.1 h
    have hx := s x List.mem_cons_self
    have := nodup_len (l := l.erase x) h2 fun z hz => (List.mem_erase_of_ne (fun e => h1 (by rw [← e]; exact hz))).2 (s z (List.mem_cons_of_mem _ hz))
    rw [List.length_erase_of_mem hx] at this
    have := List.length_pos_of_mem hx
    simp only [List.length_cons]; omega
theorem IsMrg.len {l zs : List Pc} (A : IsMrg l zs) : zs.length ≤ l.length := by
  classical
  exact nodup_len (A.srt.imp fun {a b} h => by rintro rfl; exact ltP_irr _ h) A.sub
/-! what is asked for -/
def chs (name : Tx) (qs : List QU) (s : ByteArray) : Bool := match parseU (U s) with | none => false | some (n, ls) => chooseU name qs n ls
def askP (f t hz : Int) (ch : ByteArray → Bool) (zs : List Pc) : List Pc := zs.filter fun p => decide (max f hz ≤ p.f_T) && decide (p.f_T ≤ t) && ch p.f_Series
/-- the pieces of each series -/
def grpF : Nat → List Pc → List (List Pc)
  | _, [] => []
  | 0, _ => []
  | n + 1, x :: l => (x :: l.takeWhile fun p => decide (p.f_Series = x.f_Series)) :: grpF n (l.dropWhile fun p => decide (p.f_Series = x.f_Series))
def grp (l : List Pc) : List (List Pc) := grpF l.length l
theorem dropWhile_le {α : Type} (p : α → Bool) : ∀ l : List α, (l.dropWhile p).length ≤ l.length
  | [] => by simp
  | a :: l => by
    rw [List.dropWhile_cons]
    have := dropWhile_le p l
    split <;> simp <;> omega
theorem grpF_enough : ∀ (n m : Nat) (l : List Pc), l.length ≤ n → l.length ≤ m → grpF n l = grpF m l
  | n, m, [], _, _ => by cases n <;> cases m <;> rfl
  | 0, m, x :: l, h, _ => by simp at h
  | n + 1, 0, x :: l, _, h => by simp at h
  | n + 1, m + 1, x :: l, h1, h2 => by
    simp only [grpF]
    have := dropWhile_le (fun p : Pc => decide (p.f_Series = x.f_Series)) l
    simp only [List.length_cons] at h1 h2
    rw [grpF_enough n m _ (by omega) (by omega)]
theorem grp_nil : grp [] = [] := rfl
theorem grp_cons (x : Pc) (l : List Pc) : grp (x :: l) = (x :: l.takeWhile fun p => decide (p.f_Series = x.f_Series)) :: grp (l.dropWhile fun p => decide (p.f_Series = x.f_Series)) := by
  unfold grp
  simp only [List.length_cons, grpF]
  rw [grpF_enough l.length _ _ (dropWhile_le _ _) (Nat.le_refl _)]
theorem grp_join : ∀ (n : Nat) (l : List Pc), l.length ≤ n → (grp l).flatten = l
  | _, [], _ => rfl
  | 0, x :: l, h => by simp at h
  | n + 1, x :: l, h => by
    rw [grp_cons, List.flatten_cons, grp_join n _ (Nat.le_trans (dropWhile_le _ _) (by simpa using h)), List.cons_append, List.takeWhile_append_dropWhile]
theorem grp_flat (l : List Pc) : (grp l).flatten = l := grp_join l.length l (Nat.le_refl _)
theorem grpF_ne : ∀ (n : Nat) (l : List Pc), ∀ g ∈ grpF n l, g ≠ []
  | n, [], g, h => by cases n <;> cases h
  | 0, x :: l, g, h => by cases h
  | n + 1, x :: l, g, h => by
    simp only [grpF] at h
    rcases List.mem_cons.1 h with rfl | h
    · simp
    · exact grpF_ne n _ g h
theorem grp_ne {l g : List Pc} (h : g ∈ grp l) : g ≠ [] := grpF_ne _ _ g h
theorem grpF_same : ∀ (n : Nat) (l : List Pc), ∀ g ∈ grpF n l, ∀ x ∈ g, ∀ y ∈ g, x.f_Series = y.f_Series
  | n, [], g, h => by cases n <;> cases h
  | 0, x :: l, g, h => by cases h
  | n + 1, x :: l, g, h => by
    simp only [grpF] at h
    rcases List.mem_cons.1 h with rfl | h
    · have key : ∀ z ∈ x :: l.takeWhile (fun p => decide (p.f_Series = x.f_Series)), z.f_Series = x.f_Series := fun z hz => by
        rcases List.mem_cons.1 hz with rfl | hz
        · rfl
        · have := List.all_eq_true.1 (List.all_takeWhile (p := fun p : Pc => decide (p.f_Series = x.f_Series)) (l := l)) z hz; simpa using this
      intro a ha b hb
      rw [key a ha, key b hb]
    · exact grpF_same n _ g h
theorem grp_same {l g : List Pc} (h : g ∈ grp l) : ∀ x ∈ g, ∀ y ∈ g, x.f_Series = y.f_Series := grpF_same _ _ g h
/-! rows -/
def wd (n : Int) : S_api_Wide := ⟨n / 18446744073709551616, n % 18446744073709551616⟩
abbrev RI := ByteArray × Int × Int
def toRow (r : RI) : S_api_Row := ⟨r.1, r.2.1, wd r.2.2⟩
def sumV (g : List Pc) : Int := (g.map (·.f_V)).sum
def minV : List Pc → Int
  | [] => 0
  | x :: l => l.foldl (fun m p => if p.f_V < m then p.f_V else m) x.f_V
def maxV : List Pc → Int
  | [] => 0
  | x :: l => l.foldl (fun m p => if p.f_V > m then p.f_V else m) x.f_V
def atP (step : Int) (p : Pc) : Int := IntKind.i64.wrap (p.f_T / step * step)
def eachE (step : Int) (out : List RI) (p : Pc) : List RI := match out.getLast? with
  | some r => if r.2.1 = atP step p then out.dropLast ++ [(r.1, r.2.1, r.2.2 + p.f_V)] else out ++ [(p.f_Series, atP step p, p.f_V)]
  | none => [(p.f_Series, atP step p, p.f_V)]
def eachP (step : Int) (g : List Pc) : List RI := g.foldl (eachE step) []
def in64 (n : Int) : Prop := -9223372036854775808 ≤ n ∧ n < 9223372036854775808
instance (n : Int) : Decidable (in64 n) := inferInstanceAs (Decidable (_ ∧ _))
def ser (g : List Pc) : ByteArray := match g with | [] => ByteArray.empty | x :: _ => x.f_Series
def rateP (g : List Pc) : Option Int := match g.head?, g.getLast? with
  | some a, some b => if in64 (b.f_V - a.f_V) ∧ in64 (b.f_T - a.f_T) then some ((b.f_V - a.f_V) / (b.f_T - a.f_T)) else none
  | _, _ => none
def rowsP (agg step : Int) (g : List Pc) : Option (List RI) :=
  if agg = 0 then some (g.map fun p => (p.f_Series, p.f_T, p.f_V))
  else if agg = 1 then some [(ser g, 0, (g.length : Int))]
  else if agg = 2 then some [(ser g, 0, sumV g)]
  else if agg = 3 then some [(ser g, 0, minV g)]
  else if agg = 4 then some [(ser g, 0, maxV g)]
  else if agg = 5 then (if g.length < 2 then some [] else (rateP g).map fun n => [(ser g, 0, n)])
  else some (eachP step g)
def rowsL (agg step : Int) : List (List Pc) → Option (List RI)
  | [] => some []
  | g :: r => match rowsP agg step g with | none => none | some x => (rowsL agg step r).map (x ++ ·)
def chkQ (q : S_api_Query) : Int := if (selU (U q.f_Select)).isNone then 4 else if q.f_Agg < 0 ∨ q.f_Agg > 6 ∨ q.f_Agg = 6 ∧ q.f_Step < 1 then 1 else 0
def askQ (q : S_api_Query) (hz : Int) (zs : List Pc) : List Pc := match selU (U q.f_Select) with | none => [] | some (n, qs) => askP q.f_From q.f_To hz (chs n qs) zs
def runP (q : S_api_Query) (hz : Int) (zs : List Pc) : List RI × Int :=
  if chkQ q ≠ 0 then ([], chkQ q) else match rowsL q.f_Agg q.f_Step (grp (askQ q hz zs)) with | none => ([], 19) | some r => (r, 0)
end Go.Q.Yz
