/- A part of the proof of statements of this seat: lemmas, no statement of their own. -/
import Derived.Test.YthjafnfadiijgaaRfA
set_option linter.unusedVariables false
set_option linter.unusedSimpArgs false
/- What a member's steps leave, plainly. -/
namespace Go.Q.Rf
namespace RS
/-- what a step leaves: who it is; its term and what is committed don't sink; little more is to be kept -/
structure Up (r r' : RS) (d : Nat) : Prop where
  n : r'.n = r.n
  me : r'.me = r.me
  t : r.term ≤ r'.term
  c : r.commit ≤ r'.commit
  k : r'.keeps.length ≤ r.keeps.length + d
  tk : r'.ticks ≤ max r.ticks 0
  ak : (r.role = 1 → ∃ l, r.ballot = some l) → (r'.role = 1 → ∃ l, r'.ballot = some l)
theorem Up.refl (r : RS) (c : Nat) : Up r r c := ⟨rfl, rfl, Int.le_refl _, Int.le_refl _, Nat.le_add_right _ _, Int.le_max_left _ _, fun h => h⟩
theorem Up.trans {a b d : RS} {x y : Nat} (p : Up a b x) (q : Up b d y) : Up a d (x + y) :=
  ⟨q.n.trans p.n, q.me.trans p.me, Int.le_trans p.t q.t, Int.le_trans p.c q.c, by have := p.k; have := q.k; omega, by have := p.tk; have := q.tk; omega, fun h => q.ak (p.ak h)⟩
theorem Up.mono {a b : RS} {x y : Nat} (p : Up a b x) (h : x ≤ y) : Up a b y := ⟨p.n, p.me, p.t, p.c, by have := p.k; omega, p.tk, p.ak⟩
variable {r : RS} {f : Int} {m : Msg}
theorem up_newTerm (t : Int) : Up r (r.newTerm t) 1 ∧ (r.newTerm t).role = r.role := by
  unfold newTerm keepTerm
  split
  · exact ⟨⟨rfl, rfl, by dsimp only; omega, Int.le_refl _, by simp, Int.le_max_left _ _, fun h => h⟩, rfl⟩
  · exact ⟨Up.refl _ _, rfl⟩
theorem up_follow (t l : Int) : Up r (r.follow t l) 1 := by
  have p := (up_newTerm (r := r) t).1
  exact ⟨p.n, p.me, p.t, p.c, p.k, p.tk, fun _ h => by cases h⟩
theorem up_foll : Up r (r.foll f m) 1 := by
  have p := up_follow (r := r) m.term f
  exact ⟨p.n, p.me, p.t, p.c, p.k, by show (0 : Int) ≤ _; omega, fun _ h => by cases h⟩
theorem up_settle : Up r r.settle 0 ∧ r.settle.term = r.term := by
  unfold settle
  split
  · rename_i h
    exact ⟨⟨rfl, rfl, Int.le_refl _, by dsimp only; omega, Nat.le_refl _, Int.le_max_left _ _, fun h => h⟩, rfl⟩
  · exact ⟨Up.refl _ _, rfl⟩
theorem up_put (cmd : List Int) : Up r (r.put cmd).1 1 ∧ (r.put cmd).1.term = r.term ∧ (r.put cmd).1.role = r.role := by
  have hr : ∀ x : RS, x.settle.role = x.role := fun x => by unfold settle; split <;> rfl
  unfold put
  split
  · exact ⟨Up.refl _ _, rfl, rfl⟩
  · refine ⟨?_, (up_settle).2, hr _⟩
    have p := (up_settle (r := { r with log := (r.log.append r.log.last r.log.lastT [(r.term, cmd)]).1, keeps := r.keeps ++ [⟨2, r.log.lastT, 0, r.log.last, [(r.term, cmd)], []⟩], has := r.has.set r.me.toNat (r.log.append r.log.last r.log.lastT [(r.term, cmd)]).2.1 })).1
    have k := p.k
    simp at k
    exact ⟨p.n, p.me, p.t, p.c, k, p.tk, p.ak⟩
theorem up_win : Up r r.win.1 1 ∧ r.win.1.term = r.term := by
  unfold win
  split
  · exact ⟨Up.refl _ _, rfl⟩
  · obtain ⟨p, t, ro⟩ := up_put (r := r.lead) []
    refine ⟨⟨p.n, p.me, p.t, p.c, p.k, by have := p.tk; have e : r.lead.ticks = 0 := rfl; rw [e] at this; show (r.lead.put []).1.ticks ≤ _; omega, fun _ h => ?_⟩, t⟩
    dsimp only at h
    rw [ro] at h
    cases h
theorem nodes_ok {i : Int} (h : i ∈ r.nodes) : 0 ≤ i ∧ i < r.n ∧ i ≠ r.me := by
  unfold nodes at h
  obtain ⟨h1, h2⟩ := List.mem_filter.1 h
  obtain ⟨j, hj, rfl⟩ := List.mem_map.1 h1
  simp at hj h2
  omega
/-- letters of a member: to others, in its term -/
def Lt (n me t : Int) (l : List Mail) : Prop := ∀ x ∈ l, (0 ≤ x.1 ∧ x.1 < n ∧ x.1 ≠ me) ∧ x.2.term = t
theorem Lt.nil (n me t : Int) : Lt n me t [] := fun x h => by cases h
theorem Lt.one {n me t : Int} {i : Int} {m : Msg} (h : 0 ≤ i ∧ i < n ∧ i ≠ me) (ht : m.term = t) : Lt n me t [(i, m)] := fun x hx => by
  simp at hx; subst hx; exact ⟨h, ht⟩
theorem others_ok (g : Int → Msg) (hg : ∀ i, (g i).term = r.term) : Lt r.n r.me r.term (r.others g) := fun x hx => by
  unfold others at hx
  obtain ⟨i, hi, rfl⟩ := List.mem_map.1 hx
  exact ⟨nodes_ok hi, hg i⟩
theorem due_term (i : Int) : (r.due i).term = r.term := by
  unfold due; split <;> rfl
theorem win_lt : Lt r.n r.me r.win.1.term r.win.2 := by
  unfold win
  split
  · exact Lt.nil _ _ _
  · have h := others_ok (r := (r.lead.put []).1) (due (r.lead.put []).1) fun i => due_term i
    obtain ⟨p, _, _⟩ := up_put (r := r.lead) []
    have e1 : (r.lead.put []).1.n = r.n := p.n
    have e2 : (r.lead.put []).1.me = r.me := p.me
    rw [e1, e2] at h
    exact h
theorem take2_ok (f0 : 0 ≤ f ∧ f < r.n ∧ f ≠ r.me) : Up r (r.take2 f m).1 2 ∧ Lt r.n r.me (r.take2 f m).1.term (r.take2 f m).2 := by
  unfold take2
  split
  · -- a wish for a vote
    unfold voted
    split
    · dsimp only
      split
      · exact ⟨⟨rfl, rfl, Int.le_refl _, Int.le_refl _, by simp [keepTerm], by show (0 : Int) ≤ _; omega, fun h => h⟩, Lt.one f0 rfl⟩
      · exact ⟨⟨rfl, rfl, Int.le_refl _, Int.le_refl _, by simp, by show (0 : Int) ≤ _; omega, fun h => h⟩, Lt.one f0 rfl⟩
    · exact ⟨Up.refl _ _, Lt.one f0 rfl⟩
  split
  · -- a vote
    have c : Up r (r.counted f m) 0 := by
      unfold counted
      split
      · rename_i h
        exact ⟨rfl, rfl, Int.le_refl _, Int.le_refl _, Nat.le_refl _, Int.le_max_left _ _, fun h hr => by obtain ⟨l, el⟩ := h hr; exact ⟨_, by dsimp only; rw [el]; rfl⟩⟩
      · exact Up.refl _ _
    have w := win_lt (r := r.counted f m)
    rw [c.n, c.me] at w
    exact ⟨(c.trans up_win.1).mono (by omega), w⟩
  split
  · -- entries
    unfold appends
    have p := up_foll (r := r) (f := f) (m := m)
    have f1 : 0 ≤ f ∧ f < r.n ∧ f ≠ r.me := f0
    unfold appends2
    split
    · exact ⟨p.mono (by omega), Lt.one f0 rfl⟩
    · refine ⟨⟨p.n, p.me, p.t, ?_, ?_, p.tk, p.ak⟩, Lt.one f0 rfl⟩
      · show r.commit ≤ max (r.foll f m).commit _
        have := p.c; omega
      · have := p.k
        show (if _ then _ else _ : List Keep).length ≤ _
        split
        · simp; omega
        · omega
  split
  · -- an answer to entries
    unfold appended
    split
    · exact ⟨Up.refl _ _, Lt.nil _ _ _⟩
    split
    · exact ⟨⟨rfl, rfl, Int.le_refl _, Int.le_refl _, by show r.keeps.length ≤ _; omega, Int.le_max_left _ _, fun h => h⟩, Lt.one f0 (due_term _)⟩
    split
    · exact ⟨Up.refl _ _, Lt.nil _ _ _⟩
    · have p := (up_settle (r := { r with has := r.has.set f.toNat (max (r.has.getD f.toNat 0) m.index), next := r.next.set f.toNat (max (r.next.getD f.toNat 0) (W (m.index + 1))) })).1
      have q : Up r (r.forth f m) 2 := ⟨p.n, p.me, p.t, p.c, by have := p.k; show _ ≤ r.keeps.length + 2; exact Nat.le_trans this (by show r.keeps.length + 0 ≤ _; omega), p.tk, p.ak⟩
      split
      · exact ⟨q, Lt.one f0 (due_term _)⟩
      · exact ⟨q, Lt.nil _ _ _⟩
  · -- a snapshot
    unfold snapshot
    have p := up_foll (r := r) (f := f) (m := m)
    refine ⟨?_, Lt.one f0 rfl⟩
    unfold snap2
    split
    · rename_i h
      refine ⟨p.n, p.me, p.t, ?_, ?_, p.tk, p.ak⟩
      · show r.commit ≤ m.index
        have := p.c; omega
      · have := p.k
        show ((r.foll f m).keeps ++ _).length ≤ _
        simp; omega
    · exact p.mono (by omega)
theorem take_ok : Up r (r.take f m).1 3 ∧ Lt r.n r.me (r.take f m).1.term (r.take f m).2 ∧ ((f < 0 ∨ f ≥ r.n ∨ f = r.me ∨ m.kind < 1 ∨ m.kind > 5) → r.take f m = (r, [])) := by
  unfold take
  split
  · rename_i h
    exact ⟨Up.refl _ _, Lt.nil _ _ _, fun _ => rfl⟩
  · rename_i h
    refine ⟨?_, ?_, fun h2 => absurd h2 h⟩
    · split
      · exact Up.refl _ _
      · split
        · have p := up_follow (r := r) m.term (-1)
          exact (p.trans (take2_ok (by rw [p.n, p.me]; omega)).1).mono (by omega)
        · exact (take2_ok (by omega)).1.mono (by omega)
    · split
      · unfold late answer
        split
        · exact Lt.one (by omega) rfl
        · split
          · exact Lt.one (by omega) rfl
          · exact Lt.nil _ _ _
      · split
        · have p := up_follow (r := r) m.term (-1)
          have q := (take2_ok (r := r.follow m.term (-1)) (f := f) (m := m) (by rw [p.n, p.me]; omega)).2
          rw [p.n, p.me] at q
          exact q
        · exact (take2_ok (by omega)).2
theorem nodes_len : r.nodes.length ≤ r.n.toNat := by
  unfold nodes
  exact Nat.le_trans (List.length_filter_le _ _) (by simp)
theorem win_len' : r.win.2.length ≤ r.n.toNat := by
  unfold win
  split
  · simp
  · obtain ⟨p, _, _⟩ := up_put (r := r.lead) []
    have e1 : (r.lead.put []).1.n = r.n := p.n
    show (others _ _).length ≤ _
    unfold others
    rw [List.length_map, ← e1]
    exact nodes_len
theorem take2_len : (r.take2 f m).2.length ≤ r.n.toNat + 1 := by
  unfold take2
  split
  · unfold voted answer
    split <;> simp
  split
  · have := win_len' (r := r.counted f m)
    have e : (r.counted f m).n = r.n := by unfold counted; split <;> rfl
    rw [e] at this
    omega
  split
  · unfold appends appends2 answer
    split <;> simp
  split
  · unfold appended
    split
    · simp
    split
    · simp
    split
    · simp
    split <;> simp
  · simp [snapshot, answer]
theorem take_len : (r.take f m).2.length ≤ r.n.toNat + 1 := by
  unfold take
  split
  · simp
  split
  · unfold late answer
    split
    · simp
    · split <;> simp
  split
  · have := take2_len (r := r.follow m.term (-1)) (f := f) (m := m)
    have p := up_follow (r := r) m.term (-1)
    rw [p.n] at this
    exact this
  · exact take2_len
/-- a tick -/
theorem tick_up : r.tick.1.n = r.n ∧ r.tick.1.me = r.me ∧ r.tick.1.keeps.length ≤ r.keeps.length + 3 ∧ r.tick.1.ticks ≤ max r.ticks 0 + 1 ∧ ((r.role = 1 → ∃ l, r.ballot = some l) → (r.tick.1.role = 1 → ∃ l, r.tick.1.ballot = some l)) := by
  unfold tick
  split
  · exact ⟨rfl, rfl, by simp, by dsimp only; omega, fun h => h⟩
  split
  · unfold campaign
    split
    · exact ⟨rfl, rfl, by simp, by dsimp only; omega, fun h => h⟩
    · obtain ⟨p, _⟩ := up_win (r := asks { r with ticks := r.ticks + 1 })
      have k := p.k
      have e : (asks { r with ticks := r.ticks + 1 }).keeps.length = r.keeps.length + 1 := by simp [asks, keepTerm]
      have e2 : (asks { r with ticks := r.ticks + 1 }).ticks = 0 := rfl
      have t := p.tk
      rw [e] at k
      rw [e2] at t
      exact ⟨p.n, p.me, by dsimp only; omega, by dsimp only; omega, fun _ => p.ak fun _ => ⟨_, rfl⟩⟩
  · exact ⟨rfl, rfl, by simp, by dsimp only; omega, fun h => h⟩
end RS
end Go.Q.Rf
