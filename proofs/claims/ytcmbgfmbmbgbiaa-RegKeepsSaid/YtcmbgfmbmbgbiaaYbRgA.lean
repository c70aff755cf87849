/- A part of the proof of statements of this seat: lemmas, no statement of their own. -/
import Derived.Test.YtcmbgfmbmbgbiaaYbRg
import Derived.Test.YtcmbgfmbmbgbiaaYbRgF
import Derived.Test.YtcmbgfmbmbgbiaaYbRgS
import Derived.Test.YtcmbgfmbmbgbiaaYbRgE
set_option linter.unusedVariables false
set_option linter.unusedSimpArgs false
namespace Go.Q.Yb
abbrev vT : S_api_Tenant → Value := fun v => Value.agg (S_api_Tenant.cs v).toArray
abbrev zT : S_api_Tenant := ⟨ByteArray.empty, ⟨none, 0, 0⟩, 0, false⟩
abbrev zW : S_api_Wrapped := ⟨0, [], ⟨none, 0, 0⟩⟩
/-- a key, and its bytes -/
abbrev Z := S_api_Wrapped × List Int
theorem wcs_len (w : S_api_Wrapped) : (S_api_Wrapped.cs w).length = 14 := rfl
theorem tcs_len (t : S_api_Tenant) : (S_api_Tenant.cs t).length = 4 := rfl
theorem ccs_len (c : S_api_Command) : (S_api_Command.cs c).length = 17 := rfl
def okC (b : Int) : Bool := if (decide (b ≥ 97)) && (decide (b ≤ 122)) then true else if (decide (b ≥ 48)) && (decide (b ≤ 57)) then true else b == 45
def nameOk (t : ByteArray) : Bool := (sB t).all okC && (decide ((t.size : Int) > 0) && decide ((t.size : Int) ≤ 24))
theorem strAt {t : ByteArray} {i : Int} (h : i.toNat < t.size) : ∃ v, (sB t)[i.toNat]? = some v ∧ StrAt t i v := by
  refine ⟨_, ?_, h, rfl⟩
  simp only [sB, List.getElem?_map]
  have : t.data.toList[i.toNat]? = some t[i.toNat] := by
    rw [List.getElem?_eq_getElem (by simpa using h)]; rfl
  rw [this]; rfl
theorem BName_ok {t : ByteArray} {k : Bool → Heap → Prop} {h : Heap} (ht : t.size ≤ 1000000) (H : k (nameOk t) h) : box_Name t k h := by
  have sl := sB_len t
  unfold box_Name
  refine ⟨fun i h' => 0 ≤ i ∧ i ≤ t.size ∧ ((sB t).take i.toNat).all okC = true ∧ h' = h, fun i _ => (t.size - i).toNat, ⟨by omega, by omega, by simp, rfl⟩, ?_⟩
  rintro i h' ⟨i0, i1, ha, e⟩
  subst e
  unfold box_Name_l1b
  by_cases hi : i < t.size
  · rw [if_pos (by rw [decide_eq_true_eq]; exact hi)]
    obtain ⟨v, hv, hs⟩ := strAt (t := t) (i := i) (by omega)
    refine ⟨v, i0, hs, ?_⟩
    have fin : ∀ b, b = okC v → box_Name_j2 t (t.size : Int) i b k (fun s h'' => (0 ≤ s ∧ s ≤ (t.size : Int) ∧ ((sB t).take s.toNat).all okC = true ∧ h'' = h') ∧ ((t.size : Int) - s).toNat < ((t.size : Int) - i).toNat) h' := fun b hb => by
      unfold box_Name_j2
      cases hc : b with
      | true =>
        rw [if_pos rfl, wrapI64 (by omega) (by omega)]
        refine ⟨⟨by omega, by omega, ?_, rfl⟩, by omega⟩
        rw [show (i + 1).toNat = i.toNat + 1 from by omega, List.take_add_one, hv]
        simp only [Option.toList_some, List.all_append, ha, List.all_cons, List.all_nil, Bool.and_true, Bool.true_and]
        rw [← hb, hc]
      | false =>
        rw [if_neg (by simp)]
        have : nameOk t = false := by
          have : (sB t).all okC = false := by
            cases hh : (sB t).all okC with
            | false => rfl
            | true => have := List.all_eq_true.1 hh v (List.mem_of_getElem? hv); rw [← hb, hc] at this; cases this
          unfold nameOk; rw [this]; rfl
        rw [this] at H; exact H
    by_cases h1 : ((decide (v ≥ 97)) && (decide (v ≤ 122))) = true
    · rw [if_pos h1]; exact fin _ (by unfold okC; rw [if_pos h1, h1])
    · rw [if_neg h1]
      by_cases h2 : ((decide (v ≥ 48)) && (decide (v ≤ 57))) = true
      · rw [if_pos h2]; exact fin _ (by unfold okC; rw [if_neg h1, if_pos h2, h2])
      · rw [if_neg h2]; exact fin _ (by unfold okC; rw [if_neg h1, if_neg h2])
  · rw [if_neg (by rw [decide_eq_true_eq]; exact hi)]
    rw [List.take_of_length_le (by omega)] at ha
    unfold nameOk at H
    rw [ha, Bool.true_and] at H
    exact H
def mayR (c : S_api_Command) (n : Nat) : Bool :=
  if c.f_Kind = 0 then true else if c.f_Kind = 1 ∨ c.f_Kind = 2 then nameOk c.f_Tenant && ((n : Int) == 48) else if c.f_Kind = 3 ∨ c.f_Kind = 4 ∨ c.f_Kind = 5 then nameOk c.f_Tenant else false
theorem May_ok {c : S_api_Command} {n : Nat} {k : Bool → Heap → Prop} {h : Heap} (wl : c.f_Wrapped.len = n) (ht : c.f_Tenant.size ≤ 1000000) (H : ∀ h', Ext h.size h h' → k (mayR c n) h') : reg_may c k h := by
  unfold reg_may
  refine ⟨_, _, rfl, rfl, ?_⟩
  have P := Blk.push h (S_api_Command.cs c) 32
  have W := Ext.push h (.cells (S_api_Command.cs c).toArray 32) (Nat.le_refl _)
  obtain ⟨h2, e2⟩ : ∃ y, y = h.push (.cells (S_api_Command.cs c).toArray 32) := ⟨_, rfl⟩
  rw [← e2] at P W ⊢
  have := H h2 W
  refine ⟨c.f_Kind, by rw [P.cell]; rfl, ?_⟩
  by_cases h0 : c.f_Kind = 0
  · rw [if_pos (by simp [h0])]
    unfold mayR at this; rw [if_pos h0] at this; exact this
  rw [if_neg (by simpa using h0)]
  unfold mayR at this; rw [if_neg h0] at this
  have j1 : ∀ b, b = decide (c.f_Kind = 1 ∨ c.f_Kind = 2) → reg_may_j1 ⟨h.size, 0, none⟩ c.f_Kind b k h2 := fun b hb => by
    unfold reg_may_j1
    by_cases h12 : c.f_Kind = 1 ∨ c.f_Kind = 2
    · rw [if_pos h12] at this
      rw [hb, if_pos (by simpa using h12)]
      refine ⟨c.f_Tenant, by rw [add_mk, P.cell]; rfl, BName_ok ht ?_⟩
      cases hn : nameOk c.f_Tenant with
      | true =>
        rw [hn, Bool.true_and] at this
        rw [if_pos rfl]
        refine ⟨c.f_Wrapped, by rw [add_mk, P.cell]; rfl, ?_⟩
        unfold reg_may_g2
        rw [wl]; exact this
      | false =>
        rw [hn, Bool.false_and] at this
        rw [if_neg (by simp)]
        unfold reg_may_g2; exact this
    · rw [if_neg h12] at this
      rw [hb, if_neg (by simpa using h12)]
      have j3 : ∀ b, b = decide (c.f_Kind = 3 ∨ c.f_Kind = 4 ∨ c.f_Kind = 5) → reg_may_j3 ⟨h.size, 0, none⟩ b k h2 := fun b hb => by
        unfold reg_may_j3
        by_cases h345 : c.f_Kind = 3 ∨ c.f_Kind = 4 ∨ c.f_Kind = 5
        · rw [if_pos h345] at this
          rw [hb, if_pos (by simpa using h345)]
          exact ⟨c.f_Tenant, by rw [add_mk, P.cell]; rfl, BName_ok ht this⟩
        · rw [if_neg h345] at this
          rw [hb, if_neg (by simpa using h345)]; exact this
      by_cases h3 : c.f_Kind = 3
      · rw [if_pos (by simp [h3])]; exact j3 _ (by simp [h3])
      · rw [if_neg (by simpa using h3)]
        by_cases h4 : c.f_Kind = 4
        · rw [if_pos (by simp [h4])]; exact j3 _ (by simp [h4])
        · rw [if_neg (by simpa using h4)]; exact j3 _ (by simp [h3, h4]; exact (Bool.beq_eq_decide_eq _ _))
  by_cases h1 : c.f_Kind = 1
  · rw [if_pos (by simp [h1])]; exact j1 _ (by simp [h1])
  · rw [if_neg (by simpa using h1)]; exact j1 _ (by simp [h1]; exact (Bool.beq_eq_decide_eq _ _))
/-! ### keys in memory -/
def KAt (h : Heap) (s : Slc) (zs : List Z) : Prop := LsAt S_api_Wrapped.cs 14 h s (zs.map (·.1)) ∧ ∀ z ∈ zs, SlcAt h z.1.f_B (b8 z.2) ∧ z.1.f_B.len = z.2.length ∧ isB z.2 ∧ z.2.length = 48
theorem KAt.ext {h h' : Heap} {s : Slc} {zs : List Z} (A : KAt h s zs) (X : Ext h.size h h') : KAt h' s zs := ⟨A.1.ext X, fun z hz => by obtain ⟨a, b⟩ := A.2 z hz; exact ⟨a.ext X, b⟩⟩
theorem KAt.len {h : Heap} {s : Slc} {zs : List Z} (A : KAt h s zs) : s.len = zs.length := by have := A.1.l; simpa using this
/-- what is told of a key -/
def absK (z : Z) : Int × List Int × List Int := (z.1.f_Epoch, nrm 12 z.1.f_Nonce, z.2)
def KOwn (B : Nat) (h : Heap) (s : Slc) (zs : List Z) : Prop := Row B h 132 14 s ((zs.map (·.1)).flatMap S_api_Wrapped.cs) ∧ s.len = zs.length ∧ ∀ z ∈ zs, Row B h 5 1 z.1.f_B (b8 z.2) ∧ z.1.f_B.len = z.2.length ∧ isB z.2 ∧ z.2.length = 48
theorem KOwn.mono {A B : Nat} {h : Heap} {s : Slc} {zs : List Z} (K : KOwn B h s zs) (hb : A ≤ B) : KOwn A h s zs := ⟨K.1.mono hb, K.2.1, fun z hz => by obtain ⟨a, b⟩ := K.2.2 z hz; exact ⟨a.mono hb, b⟩⟩
theorem KOwn.step {B : Nat} {h h2 : Heap} {s : Slc} {zs : List Z} (K : KOwn B h s zs) (z : h.size ≤ h2.size) (e : ∀ g, B ≤ g → g < h.size → h2[g]? = h[g]?) : KOwn B h2 s zs :=
  ⟨K.1.keep fun g hg => e g (K.1.bd hg).1 (K.1.bd hg).2, K.2.1, fun x hx => by obtain ⟨a, b⟩ := K.2.2 x hx; exact ⟨a.keep fun g hg => e g (a.bd hg).1 (a.bd hg).2, b⟩⟩
theorem KOwn.held {B : Nat} {h : Heap} {s : Slc} {zs : List Z} (K : KOwn B h s zs) : Held B h fun h' => KAt h' s zs := fun h' e => by
  have R : Row B h' 132 14 s ((zs.map (·.1)).flatMap S_api_Wrapped.cs) := K.1.keep fun g hg => e g (K.1.bd hg).1 (K.1.bd hg).2
  exact ⟨LsAt.of_slc wcs_len R.slc (by rw [K.2.1]; simp) (by omega), fun z hz => by obtain ⟨a, b⟩ := K.2.2 z hz; exact ⟨(a.keep fun g hg => e g (a.bd hg).1 (a.bd hg).2).slc, b⟩⟩
theorem KOwn.nil (B : Nat) (h : Heap) : KOwn B h ⟨none, 0, 0⟩ [] := ⟨Row.nil _ _ _ _, rfl, by simp⟩
def epA (zs : List Z) : Int := match zs.getLast? with | none => 0 | some z => z.1.f_Epoch
theorem Epoch_ok {t : S_api_Tenant} {zs : List Z} {k : Int → Heap → Prop} {h : Heap} (K : KAt h t.f_Keys zs) (hz : zs.length ≤ 1000000) (H : ∀ h', Ext h.size h h' → k (epA zs) h') : reg_epoch t k h := by
  unfold reg_epoch
  refine ⟨_, _, rfl, rfl, ?_⟩
  have P := Blk.push h (S_api_Tenant.cs t) 130
  have W := Ext.push h (.cells (S_api_Tenant.cs t).toArray 130) (Nat.le_refl _)
  obtain ⟨h2, e2⟩ : ∃ y, y = h.push (.cells (S_api_Tenant.cs t).toArray 130) := ⟨_, rfl⟩
  rw [← e2] at P W ⊢
  have g := H h2 W
  have kl := K.len
  have c1 : cellH h2 ((⟨h.size, 0, none⟩ : Addr).add 1) = some (Slc.v t.f_Keys) := by rw [add_mk, P.cell]; rfl
  refine ⟨_, c1, ?_⟩
  rcases List.eq_nil_or_concat zs with rfl | ⟨ys, y, rfl⟩
  · rw [if_pos (by rw [kl]; rfl)]; exact g
  · rw [List.concat_eq_append] at *
    simp only [List.length_append, List.length_cons, List.length_nil] at kl hz
    rw [if_neg (by rw [beq_iff_eq]; omega)]
    refine ⟨_, c1, _, c1, ?_⟩
    rw [wrapI64 (x := (t.f_Keys.len : Int) - 1) (by omega) (by omega)]
    obtain ⟨a, ha, C⟩ := (K.ext W).1.at' ys.length y.1 (by simp)
    refine ⟨a, ha, by omega, by omega, y.1.f_Epoch, ?_, ?_⟩
    · have := C 0 _ rfl
      rw [show ((t.f_Keys.len : Int) - 1).toNat = ys.length from by omega]
      rwa [show (a.add (ys.length * 14)).add 0 = a.add (ys.length * 14) from by simp [Addr.add]] at this
    · unfold epA at g; rw [List.getLast?_append] at g; exact g
end Go.Q.Yb
