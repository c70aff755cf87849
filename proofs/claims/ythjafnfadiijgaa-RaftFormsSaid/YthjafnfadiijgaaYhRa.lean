/- A part of the proof of statements of this seat: lemmas, no statement of their own. -/
import Derived.Test.YthjafnfadiijgaaYhRf
import Derived.Test.YthjafnfadiijgaaYhCl
set_option linter.unusedVariables false
set_option linter.unusedSimpArgs false
set_option maxRecDepth 100000
namespace Go.Q
/-- bytes are appended to a row of one's own -/
theorem AppB {B : Nat} {h : Heap} {s : Slc} {l m : List Int} {n : Nat} {k : Slc → Heap → Prop} (R : Row B h 5 1 s (b8 l)) (hB : B ≤ h.size) (hn : n = m.length) (hl : l.length + m.length ≤ 70368744177664)
    (H : ∀ s' h', Row B h' 5 1 s' (b8 (l ++ m)) → Ext B h h' → k s' h') : App 5 1 1 [.int .u8 0] h s n (b8 m) k := by
  subst hn
  have := R.len
  simp at this
  refine App.row R hB rfl (by simp) (b8_one m) (by omega) (by simp only [maxLen]; omega) fun s' h' R' _ hz ho _ => H s' h' ?_ ⟨hz, fun i hi => ho i (by omega) fun e => by have := (R.bd e).1; omega⟩
  simpa using R'
theorem Row.pb {B : Nat} {h : Heap} {s : Slc} {l : List Int} (R : Row B h 5 1 s (b8 l)) : s.len = l.length := by have := R.len; simpa using this
def shortF : Nat → Int → List Int
  | 0, _ => []
  | f + 1, n => if n < 128 then [n] else (n % 128 + 128) :: shortF f (n / 128)
/-- the short form of a number -/
def shortL (n : Int) : List Int := shortF 10 n
theorem shortF_len : ∀ (f : Nat) (n : Int), (shortF f n).length ≤ f
  | 0, _ => by simp [shortF]
  | f + 1, n => by
    have := shortF_len f (n / 128)
    unfold shortF; split <;> simp <;> omega
theorem shortL_len (n : Int) : (shortL n).length ≤ 10 := shortF_len 10 n
theorem shortF_B : ∀ (f : Nat) (n : Int), 0 ≤ n → isB (shortF f n)
  | 0, _, _ => by intro b hb; simp [shortF] at hb
  | f + 1, n, h => by
    have := shortF_B f (n / 128) (by omega)
    unfold shortF; split
    · intro b hb; simp at hb; omega
    · intro b hb
      rcases List.mem_cons.1 hb with hb | hb
      · omega
      · exact this b hb
theorem bwOr8_128 {n : Int} (h : 0 ≤ n) : bwOr .u8 (IntKind.u8.wrap n) 128 = n % 128 + 128 := by
  rw [wU8]
  have key : (List.range 256).all (fun m => bwOr .u8 (m : Int) 128 == (m : Int) % 128 + 128) = true := by decide +kernel
  have := List.all_eq_true.1 key (n % 256).toNat (by simp; omega)
  rw [beq_iff_eq, show ((n % 256).toNat : Int) = n % 256 from by omega] at this
  rw [this]; omega
theorem shr64 (n : Int) : shr .u64 n (7 : Int).toNat = n / 128 := by
  unfold shr
  rw [show (2 : Int) ^ (min (7 : Int).toNat IntKind.u64.bits) = 128 from rfl, Int.fdiv_eq_ediv_of_nonneg _ (by omega)]
theorem shr64_8 (n : Int) : shr .u64 n (8 : Int).toNat = n / 256 := by
  unfold shr
  rw [show (2 : Int) ^ (min (8 : Int).toNat IntKind.u64.bits) = 256 from rfl, Int.fdiv_eq_ediv_of_nonneg _ (by omega)]
namespace Yh
/-- what a function that lays bytes behind bytes does -/
abbrev Lays' (h : Heap) (out : List Int) (k : Slc → Heap → Prop) : Prop := ∀ s' h', Row h.size h' 5 1 s' (b8 out) → Ext h.size h h' → k s' h'
theorem PutShort_ok {p0 : Slc} {l : List Int} {n : Int} {k : Slc → Heap → Prop} {h : Heap} (hl : p0.len = l.length) (hs : SlcAt h p0 (b8 l)) (hsz : l.length ≤ 35184372088832) (n0 : 0 ≤ n) (n1 : n < 18446744073709551616)
    (H : Lays' h (l ++ shortL n) k) : num_PutShort p0 n k h := by
  unfold num_PutShort
  refine Clone_ok hl hs (by omega) fun s1 h1 R1 X1 => ?_
  refine ⟨fun q h' => ∃ (cur : List Int) (f : Nat), Row h.size h' 5 1 q.2 (b8 cur) ∧ cur ++ shortF f q.1 = l ++ shortL n ∧ 0 ≤ q.1 ∧ q.1 < 128 ^ f ∧ 1 ≤ f ∧ f ≤ 10 ∧ cur.length + f ≤ l.length + 10 ∧ Ext h.size h h', fun q _ => q.1.toNat, ⟨l, 10, R1, rfl, n0, by omega, by omega, by omega, by omega, X1⟩, ?_⟩
  rintro m s h2 ⟨cur, f, R, hc, m0, m1, f1, f10, lc, X⟩
  dsimp only at R hc m0 m1
  have z := X.size
  obtain ⟨f, rfl⟩ : ∃ g, f = g + 1 := ⟨f - 1, by omega⟩
  unfold num_PutShort_l1b
  by_cases hm : m ≥ 128
  · rw [if_pos (by simpa using hm), bwOr8_128 m0, shr64]
    refine ⟨_, _, rfl, rfl, ?_⟩
    have hf : 1 ≤ f := by
      rcases Nat.eq_zero_or_pos f with h0 | h0
      · subst h0; simp at m1; omega
      · exact h0
    refine AppB (m := [m % 128 + 128]) (R.pushed _) (by simp; omega) rfl (by simp; omega) fun s' h3 R3 X3 => ?_
    have hlt : m / 128 < 128 ^ f := Int.ediv_lt_of_lt_mul (by omega) (by rw [Int.pow_succ] at m1; exact m1)
    refine ⟨_, rfl, ⟨_, f, R3, ?_, by dsimp only; omega, hlt, hf, by omega, by simp; omega, X.trans ((Ext.push h2 _ z).trans X3)⟩, by dsimp only; omega⟩
    dsimp only
    rw [← hc, shortF, if_neg (by omega)]
    simp
  · rw [if_neg (by simpa using hm), wU8, show m % 256 = m from by omega]
    refine ⟨_, _, rfl, rfl, ?_⟩
    refine AppB (m := [m]) (R.pushed _) (by simp; omega) rfl (by simp; omega) fun s' h3 R3 X3 => ?_
    refine H s' h3 ?_ (X.trans ((Ext.push h2 _ z).trans X3))
    rw [← hc, shortF, if_pos (by omega)]
    exact R3
theorem btext_ok {p0 p1 : Slc} {l t : List Int} {k : Slc → Heap → Prop} {h : Heap} (hl : p0.len = l.length) (hs : SlcAt h p0 (b8 l)) (hsz : l.length ≤ 17592186044416) (tl : p1.len = t.length) (ts : SlcAt h p1 (b8 t)) (ht : t.length ≤ 17592186044416)
    (H : Lays' h (l ++ shortL t.length ++ t) k) : raft_text p0 p1 k h := by
  unfold raft_text
  rw [wrapU64 (by omega) (by omega), tl]
  refine PutShort_ok hl hs (by omega) (by omega) (by omega) fun s1 h1 R1 X1 => ?_
  have := shortL_len t.length
  exact ⟨_, ts.ext X1, AppB R1 X1.size rfl (by rw [List.length_append]; omega) fun s' h' R' X' => H s' h' R' (X1.trans X')⟩
end Yh
end Go.Q
namespace Go.Q
namespace Yh
def tx (l : List Int) : List Int := shortL l.length ++ l
theorem tx_len (l : List Int) : (tx l).length ≤ 10 + l.length := by
  have := shortL_len l.length
  simp only [tx, List.length_append]; omega
theorem btext_ok' {p0 p1 : Slc} {l t : List Int} {k : Slc → Heap → Prop} {h : Heap} (hl : p0.len = l.length) (hs : SlcAt h p0 (b8 l)) (hsz : l.length ≤ 17592186044416) (tl : p1.len = t.length) (ts : SlcAt h p1 (b8 t)) (ht : t.length ≤ 17592186044416)
    (H : Lays' h (l ++ tx t) k) : raft_text p0 p1 k h := btext_ok hl hs hsz tl ts ht (by rw [List.append_assoc]; exact H)
/-! ### a command -/
end Yh
end Go.Q
