/-
  Plain laws of Play: what each replica knows, whatever they hear of one another.
-/
import Derived.Test.YtpicfjlcepfneaaRUse
namespace Go.Proofs.Ytpicfjlcepfneaa
open Go.RowKit
/-- The cells that replica k alone changes. -/
def rowIx (k q : Nat) : Prop := q = k ∨ q = 16 + k ∨ (32 + k * 16 ≤ q ∧ q < 32 + k * 16 + 16)
def leRow (k : Nat) (r s : Nat → Int) : Prop := ∀ q, q < 288 → rowIx k q → r q ≤ s q
theorem leRow.refl (k : Nat) (r : Nat → Int) : leRow k r r := fun _ _ _ => Int.le_refl _
theorem leRow.trans {k : Nat} {r s t : Nat → Int} (h : leRow k r s) (g : leRow k s t) : leRow k r t := fun q hq hk => Int.le_trans (h q hq hk) (g q hq hk)
/-- What is free at k, reckoned. -/
def FS (r : Nat → Int) (k : Nat) : Int := r k + S16 (fun j => mv r j k) - r (16 + k) - S16 (fun j => mv r k j)
theorem S16_le {g h : Nat → Int} (hl : ∀ j, j < 16 → g j ≤ h j) : S16 g ≤ S16 h := by
  have : ∀ n, n ≤ 16 → ((List.range n).map g).sum ≤ ((List.range n).map h).sum := by
    intro n
    induction n with
    | zero => intro _; simp
    | succ n ih =>
      intro hn
      have h1 := ih (by omega)
      have h2 := hl n (by omega)
      rw [List.range_succ, List.map_append, List.map_append, List.sum_append, List.sum_append]
      simp only [List.map_cons, List.map_nil, List.sum_cons, List.sum_nil, Int.add_zero]
      omega
  exact this 16 (Nat.le_refl _)
/-- One's row is the same, and no less comes in: no less is free. -/
theorem FS_more {r s : Nat → Int} {k : Nat} (hk : k < 16) (h1 : leRow k r s) (h2 : leRow k s r) (h3 : ∀ j, j < 16 → mv r j k ≤ mv s j k) : FS r k ≤ FS s k := by
  unfold FS
  have e1 : s k = r k := Int.le_antisymm (h2 k (by omega) (Or.inl rfl)) (h1 k (by omega) (Or.inl rfl))
  have e2 : s (16 + k) = r (16 + k) := Int.le_antisymm (h2 _ (by omega) (Or.inr (Or.inl rfl))) (h1 _ (by omega) (Or.inr (Or.inl rfl)))
  have e3 : S16 (fun j => mv s k j) = S16 fun j => mv r k j := S16_same fun j hj => Int.le_antisymm (h2 (32 + k * 16 + j) (by omega) (Or.inr (Or.inr ⟨by omega, by omega⟩))) (h1 (32 + k * 16 + j) (by omega) (Or.inr (Or.inr ⟨by omega, by omega⟩)))
  have e4 := S16_le (g := fun j => mv r j k) (h := fun j => mv s j k) h3
  rw [e1, e2, e3]
  omega
/-- What one may know, beside the states S. -/
structure View (B : Int) (S : Nat → Nat → Int) (r : Nat → Int) : Prop where
  bnd : ∀ q, q < 288 → 0 ≤ r q ∧ r q ≤ B
  cmp : ∀ a k, a < 16 → k < 16 → leRow k r (S a) ∨ leRow k (S a) r
  own : ∀ k, k < 16 → leRow k r (S k)
  fr : ∀ k, k < 16 → 0 ≤ FS r k
theorem joinV_le_left (f g : Nat → Int) (i : Nat) : f i ≤ joinV f g i := by unfold joinV; split <;> omega
theorem joinV_le_right (f g : Nat → Int) (i : Nat) : g i ≤ joinV f g i := by unfold joinV; split <;> omega
theorem joinV_le {f g : Nat → Int} {i : Nat} {m : Int} (h1 : f i ≤ m) (h2 : g i ≤ m) : joinV f g i ≤ m := by unfold joinV; split <;> omega
theorem View.join {B : Int} {S : Nat → Nat → Int} {r : Nat → Int} {b : Nat} (hb : b < 16) (h : View B S r) (g : View B S (S b)) : View B S (joinV r (S b)) := by
  -- each row of the join is a row of one of the two
  have one : ∀ k, k < 16 → (leRow k (joinV r (S b)) r ∧ leRow k r (joinV r (S b))) ∨ (leRow k (joinV r (S b)) (S b) ∧ leRow k (S b) (joinV r (S b))) := by
    intro k hk
    rcases h.cmp b k hb hk with h1 | h1
    · exact Or.inr ⟨fun q hq hqk => joinV_le (h1 q hq hqk) (Int.le_refl _), fun q _ _ => joinV_le_right _ _ _⟩
    · exact Or.inl ⟨fun q hq hqk => joinV_le (Int.le_refl _) (h1 q hq hqk), fun q _ _ => joinV_le_left _ _ _⟩
  refine ⟨fun q hq => ?_, fun a k ha hk => ?_, fun k hk => ?_, fun k hk => ?_⟩
  · have h1 := h.bnd q hq
    have h2 := g.bnd q hq
    exact ⟨Int.le_trans h1.1 (joinV_le_left _ _ _), joinV_le h1.2 h2.2⟩
  · rcases one k hk with ⟨e1, e2⟩ | ⟨e1, e2⟩
    · rcases h.cmp a k ha hk with h1 | h1
      · exact Or.inl (e1.trans h1)
      · exact Or.inr (h1.trans e2)
    · rcases g.cmp a k ha hk with h1 | h1
      · exact Or.inl (e1.trans h1)
      · exact Or.inr (h1.trans e2)
  · exact fun q hq hqk => joinV_le (h.own k hk q hq hqk) (g.own k hk q hq hqk)
  · rcases one k hk with ⟨e1, e2⟩ | ⟨e1, e2⟩
    · exact Int.le_trans (h.fr k hk) (FS_more hk e2 e1 fun j _ => joinV_le_left _ _ _)
    · exact Int.le_trans (g.fr k hk) (FS_more hk e2 e1 fun j _ => joinV_le_right _ _ _)
/-- All states know only what there is. -/
def Inv (B : Int) (S : Nat → Nat → Int) : Prop := ∀ a, a < 16 → View B S (S a)
theorem View.mono {B C : Int} {S : Nat → Nat → Int} {r : Nat → Int} (h : View B S r) (hBC : B ≤ C) : View C S r := ⟨fun q hq => ⟨(h.bnd q hq).1, Int.le_trans (h.bnd q hq).2 hBC⟩, h.cmp, h.own, h.fr⟩
def setS (S : Nat → Nat → Int) (a : Nat) (r : Nat → Int) : Nat → Nat → Int := fun c => if c = a then r else S c
theorem setS_same (S : Nat → Nat → Int) (a : Nat) (r : Nat → Int) : setS S a r a = r := by unfold setS; rw [if_pos rfl]
theorem setS_other (S : Nat → Nat → Int) {a c : Nat} (r : Nat → Int) (h : c ≠ a) : setS S a r c = S c := by unfold setS; rw [if_neg h]
/-- A replica changes to what is not less, its own row at most beyond what there was. -/
theorem Inv.set {B C : Int} {S : Nat → Nat → Int} {a : Nat} {r : Nat → Int} (h : Inv B S) (ha : a < 16) (hBC : B ≤ C) (hb : ∀ q, q < 288 → r q ≤ C) (hm : ∀ q, q < 288 → S a q ≤ r q)
    (hc : ∀ c k, c < 16 → k < 16 → k ≠ a → leRow k r (S c) ∨ leRow k (S c) r) (ho : ∀ k, k < 16 → k ≠ a → leRow k r (S k)) (hf : ∀ k, k < 16 → 0 ≤ FS r k) : Inv C (setS S a r) := by
  have up : ∀ c, c < 16 → leRow a (S c) r := fun c hc => ((h c hc).own a ha).trans fun q hq _ => hm q hq
  intro c hc'
  by_cases hca : c = a
  · subst hca
    rw [setS_same]
    refine ⟨fun q hq => ⟨Int.le_trans ((h c hc').bnd q hq).1 (hm q hq), hb q hq⟩, fun d k hd hk => ?_, fun k hk => ?_, hf⟩
    · by_cases hdc : d = c
      · subst hdc; rw [setS_same]; exact Or.inl (leRow.refl _ _)
      · rw [setS_other _ _ hdc]
        by_cases hkc : k = c
        · subst hkc; exact Or.inr (up d hd)
        · exact hc d k hd hk hkc
    · by_cases hkc : k = c
      · subst hkc; rw [setS_same]; exact leRow.refl _ _
      · rw [setS_other _ _ hkc]; exact ho k hk hkc
  · rw [setS_other _ _ hca]
    have hv := (h c hc').mono hBC
    refine ⟨hv.bnd, fun d k hd hk => ?_, fun k hk => ?_, hv.fr⟩
    · by_cases hda : d = a
      · subst hda
        rw [setS_same]
        by_cases hkd : k = d
        · subst hkd; exact Or.inl (up c hc')
        · exact (hc c k hc' hk hkd).symm
      · rw [setS_other _ _ hda]; exact hv.cmp d k hd hk
    · by_cases hka : k = a
      · subst hka; rw [setS_same]; exact up c hc'
      · rw [setS_other _ _ hka]; exact hv.own k hk
theorem Inv.join {B : Int} {S : Nat → Nat → Int} {a b : Nat} (h : Inv B S) (ha : a < 16) (hb : b < 16) : Inv B (setS S a (joinV (S a) (S b))) := by
  have hj := (h a ha).join hb (h b hb)
  exact h.set ha (Int.le_refl _) (fun q hq => (hj.bnd q hq).2) (fun q _ => joinV_le_left _ _ _) (fun c k hc hk _ => hj.cmp c k hc hk) (fun k hk _ => hj.own k hk) hj.fr
theorem inv_bump {B n : Int} {S : Nat → Nat → Int} {a q : Nat} (h : Inv B S) (ha : a < 16) (hq : rowIx a q) (h0 : 0 ≤ n) (h1 : n ≤ 1000) (hf : ∀ k, k < 16 → 0 ≤ FS (bump q n (S a)) k) : Inv (B + 1000) (setS S a (bump q n (S a))) := by
  have hrow : ∀ k, k < 16 → k ≠ a → leRow k (bump q n (S a)) (S a) ∧ leRow k (S a) (bump q n (S a)) := by
    intro k hk hka
    have : ∀ p, p < 288 → rowIx k p → bump q n (S a) p = S a p := by
      intro p hp hkp
      refine bump_past _ _ _ _ ?_
      unfold rowIx at hkp hq
      omega
    exact ⟨fun p hp hkp => Int.le_of_eq (this p hp hkp), fun p hp hkp => Int.le_of_eq (this p hp hkp).symm⟩
  refine h.set ha (by omega) (fun p hp => ?_) (fun p _ => ?_) (fun c k hc hk hka => ?_) (fun k hk hka => (hrow k hk hka).1.trans ((h a ha).own k hk)) hf
  · have := ((h a ha).bnd p hp).2
    unfold bump
    split <;> omega
  · unfold bump
    split <;> omega
  · rcases (h a ha).cmp c k hc hk with h2 | h2
    · exact Or.inl ((hrow k hk hka).1.trans h2)
    · exact Or.inr (h2.trans (hrow k hk hka).2)
theorem FS_given {r : Nat → Int} {n : Int} {a k : Nat} (ha : a < 16) (hk : k < 16) : FS (bump a n r) k = FS r k + (if k = a then n else 0) := by
  unfold FS
  rw [bump_past _ _ a (16 + k) (by omega), S16_same (g := fun c => mv r c k) (g' := fun c => mv (bump a n r) c k) fun c _ => bump_past _ _ _ _ (by omega),
    S16_same (g := fun c => mv r k c) (g' := fun c => mv (bump a n r) k c) fun c _ => bump_past _ _ _ _ (by omega)]
  unfold bump
  split <;> omega
theorem FS_used {r : Nat → Int} {n : Int} {a k : Nat} (ha : a < 16) (hk : k < 16) : FS (bump (16 + a) n r) k = FS r k - (if k = a then n else 0) := by
  unfold FS
  rw [bump_past _ _ (16 + a) k (by omega), S16_same (g := fun c => mv r c k) (g' := fun c => mv (bump (16 + a) n r) c k) fun c _ => bump_past _ _ _ _ (by omega),
    S16_same (g := fun c => mv r k c) (g' := fun c => mv (bump (16 + a) n r) k c) fun c _ => bump_past _ _ _ _ (by omega)]
  unfold bump
  by_cases h : k = a
  · subst h; rw [if_pos rfl, if_pos rfl]; omega
  · rw [if_neg (by omega), if_neg h]; omega
theorem FS_moved {r : Nat → Int} {n : Int} {a b k : Nat} (ha : a < 16) (hb : b < 16) (hk : k < 16) : FS (bump (32 + a * 16 + b) n r) k = FS r k + (if k = b then n else 0) - (if k = a then n else 0) := by
  unfold FS
  rw [bump_past _ _ _ k (by omega), bump_past _ _ _ (16 + k) (by omega)]
  rw [S16_upd (g := fun c => mv r c k) (m := a) (d := if k = b then n else 0) ha (fun c _ => mv_bump r n a b hb c k hk)]
  rw [S16_upd (g := fun c => mv r k c) (g' := fun c => mv (bump (32 + a * 16 + b) n r) k c) (m := b) (d := if k = a then n else 0) hb (fun c hc => by
    rw [mv_bump r n a b hb k c hc]
    by_cases h2 : k = a <;> by_cases h3 : c = b <;> simp [h2, h3])]
  omega
theorem View.small {B : Int} {S : Nat → Nat → Int} {r : Nat → Int} (h : View B S r) (hB : B ≤ BB) : small BB r := fun q hq => by
  have := h.bnd q hq
  unfold BB at *
  omega
theorem View.free {B : Int} {S : Nat → Nat → Int} {r : Nat → Int} (h : View B S r) (hB : B ≤ BB) {k : Nat} (hk : k < 16) : freeE r k = 0 ∧ freeN r k = FS r k := ⟨freeE_small (h.small hB) hk, freeN_small (h.small hB) hk⟩
/-- What replica i makes of its state. -/
def doR (S : Nat → Nat → Int) (v i k n : Int) : (Nat → Int) × Int :=
  if v = 0 then (giveF (S i.toNat) i n, giveE (S i.toNat) i n)
  else if v = 1 then (useF (S i.toNat) i n, useE (S i.toNat) i n)
  else if v = 2 then (moveF (S i.toNat) i k n, moveE (S i.toNat) i k n)
  else if v = 3 ∧ 0 ≤ k ∧ k ≤ 15 then (joinV (S i.toNat) (S k.toNat), 0)
  else (S i.toNat, 0)
def stepS (S : Nat → Nat → Int) (v i k n : Int) : Nat → Nat → Int :=
  if 0 ≤ i ∧ i ≤ 15 ∧ n ≤ 1000 then (if (doR S v i k n).2 = 0 then setS S i.toNat (doR S v i k n).1 else S) else S
theorem Inv.mono {B C : Int} {S : Nat → Nat → Int} (h : Inv B S) (hBC : B ≤ C) : Inv C S := fun a ha => (h a ha).mono hBC
theorem setS_self (S : Nat → Nat → Int) (a : Nat) : setS S a (S a) = S := by
  funext c
  unfold setS
  by_cases h : c = a
  · rw [if_pos h, h]
  · rw [if_neg h]
theorem Inv.step {B : Int} {S : Nat → Nat → Int} (h : Inv B S) (hB : B ≤ BB) (v i k n : Int) : Inv (B + 1000) (stepS S v i k n) := by
  unfold stepS
  split
  · rename_i hin
    obtain ⟨hi0, hi1, hn⟩ := hin
    obtain ⟨a, rfl⟩ := Int.eq_ofNat_of_zero_le hi0
    have ha : a < 16 := by omega
    split
    · rename_i he
      unfold doR at he ⊢
      simp only [Int.toNat_natCast] at he ⊢
      split
      · rename_i hv
        rw [if_pos hv] at he
        have he : giveE (S a) a n = 0 := he
        obtain ⟨u1, u2, _⟩ := upd_grow (o := 0) ha he
        have hF : giveF (S a) a n = bump a n (S a) := by unfold giveF; rw [if_pos he, u1, Nat.zero_add]
        show Inv (B + 1000) (setS S a (giveF (S a) a n))
        rw [hF]
        refine inv_bump h ha (Or.inl rfl) u2 hn fun k hk => ?_
        rw [FS_given ha hk]
        have := (h a ha).fr k hk
        split <;> omega
      · rename_i hv
        rw [if_neg hv] at he
        split
        · rename_i hv1
          rw [if_pos hv1] at he
          have he : useE (S a) a n = 0 := he
          have he' := he
          unfold useE at he'
          have hen : enoughE (S a) a n = 0 := by
            by_cases hc : enoughE (S a) a n = 0
            · exact hc
            · rw [if_neg hc] at he'; exact absurd he' hc
          rw [if_pos hen] at he'
          obtain ⟨u1, u2, _⟩ := upd_grow ha he'
          obtain ⟨_, _, e3⟩ := enough_facts hen
          have hF : useF (S a) a n = bump (16 + a) n (S a) := by unfold useF; rw [if_pos he, u1]
          show Inv (B + 1000) (setS S a (useF (S a) a n))
          rw [hF]
          refine inv_bump h ha (Or.inr (Or.inl rfl)) u2 hn fun k hk => ?_
          rw [FS_used ha hk]
          have h1 := (h a ha).fr k hk
          rw [((h a ha).free hB ha).2] at e3
          split
          · rename_i hka; subst hka; omega
          · omega
        · rename_i hv1
          rw [if_neg hv1] at he
          split
          · rename_i hv2
            rw [if_pos hv2] at he
            have he : moveE (S a) a k n = 0 := he
            cases hat : moveAt a k with
            | false => simp [moveE, hat] at he
            | true =>
              obtain ⟨hi, hk, hik⟩ := moveAt_iff.1 hat
              obtain ⟨h2, h3⟩ := isK_iff.1 hk
              obtain ⟨b, rfl⟩ := Int.eq_ofNat_of_zero_le h2
              have hb : b < 16 := by omega
              have he' := he
              unfold moveE at he'
              rw [hat, Int.toNat_natCast] at he'
              simp only [if_true] at he'
              have hen : enoughE (S a) a n = 0 := by
                by_cases hc : enoughE (S a) a n = 0
                · exact hc
                · rw [if_neg hc] at he'; exact absurd he' hc
              rw [if_pos hen] at he'
              obtain ⟨u1, u2, _⟩ := upd_grow hb he'
              obtain ⟨_, _, e3⟩ := enough_facts hen
              have hF : moveF (S a) a b n = bump (32 + a * 16 + b) n (S a) := by unfold moveF; rw [if_pos he, Int.toNat_natCast, u1]
              show Inv (B + 1000) (setS S a (moveF (S a) a b n))
              rw [hF]
              refine inv_bump h ha (Or.inr (Or.inr ⟨by omega, by omega⟩)) u2 hn fun k hk => ?_
              rw [FS_moved ha hb hk]
              have h1 := (h a ha).fr k hk
              rw [((h a ha).free hB ha).2] at e3
              by_cases hka : k = a
              · subst hka; rw [if_pos rfl]; split <;> omega
              · rw [if_neg hka]; split <;> omega
          · split
            · rename_i hv3
              obtain ⟨_, h2, h3⟩ := hv3
              obtain ⟨b, rfl⟩ := Int.eq_ofNat_of_zero_le h2
              exact (h.join ha (show b < 16 by omega)).mono (by omega)
            · show Inv (B + 1000) (setS S a (S a))
              rw [setS_self]
              exact h.mono (by omega)
    · exact h.mono (by omega)
  · exact h.mono (by omega)
end Go.Proofs.Ytpicfjlcepfneaa
