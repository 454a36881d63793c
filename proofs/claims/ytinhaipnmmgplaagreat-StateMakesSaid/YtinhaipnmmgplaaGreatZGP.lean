/-
  Layer 17 (state): the bytes of a state that may be tell the state.
-/
import Derived.Test.YtinhaipnmmgplaaGreatZGN
import Derived.Test.YtinhaipnmmgplaaGreatZStSame
import Derived.Test.YtinhaipnmmgplaaGreatZGM
import Derived.Test.YtinhaipnmmgplaaGreatZWDec
import Derived.Test.YtinhaipnmmgplaaGreatZGQ
import Derived.Test.YtinhaipnmmgplaaGreatZGO
import Derived.Test.YtinhaipnmmgplaaGreatZSta
import Derived.Test.YtinhaipnmmgplaaGreatZFew14
import Derived.Test.YtinhaipnmmgplaaGreatZDown
namespace Go.Proofs.YtinhaipnmmgplaaGreat
set_option maxRecDepth 20000
open Go.RowKit
set_option linter.unusedSimpArgs false
set_option linter.unusedVariables false
theorem numB_inj {n m : Int} {r q : List UInt8} (hn : isB n = true) (hm : isB m = true) (h : numB n ++ r = numB m ++ q) : n = m ∧ r = q := by
  have h1 := rd_numB hn r
  have h2 := rd_numB hm q
  rw [h, h2] at h1
  injection h1 with h3 h4
  injection h4 with _ h5
  exact ⟨h3.symm, h5.symm⟩
theorem catB_inj {r q : List UInt8} : ∀ {l k : List Int}, (∀ x ∈ l, isB x = true) → (∀ x ∈ k, isB x = true) → l.length = k.length → catB l ++ r = catB k ++ q → l = k ∧ r = q
  | [], [], _, _, _, h => ⟨rfl, by simpa [catB] using h⟩
  | [], _ :: _, _, _, h, _ => by simp at h
  | _ :: _, [], _, _, h, _ => by simp at h
  | a :: l, b :: k, h1, h2, h3, h => by
    rw [catB, catB, List.append_assoc, List.append_assoc] at h
    obtain ⟨rfl, h5⟩ := numB_inj (h1 a (by simp)) (h2 b (by simp)) h
    obtain ⟨rfl, h6⟩ := catB_inj (fun x hx => h1 x (by simp [hx])) (fun x hx => h2 x (by simp [hx])) (by simpa using h3) h5
    exact ⟨rfl, h6⟩
theorem catN_inj {n : Nat} {f g : Nat → Int} {r q : List UInt8} (h1 : ∀ i, i < n → isB (f i) = true) (h2 : ∀ i, i < n → isB (g i) = true) (h : catN n f ++ r = catN n g ++ q) : (∀ i, i < n → f i = g i) ∧ r = q := by
  unfold catN at h
  obtain ⟨h3, h4⟩ := catB_inj (fun x hx => by obtain ⟨i, hi, rfl⟩ := List.mem_map.1 hx; exact h1 i (List.mem_range.1 hi)) (fun x hx => by obtain ⟨i, hi, rfl⟩ := List.mem_map.1 hx; exact h2 i (List.mem_range.1 hi)) (by simp) h
  refine ⟨fun i hi => ?_, h4⟩
  have := congrArg (fun l => l[i]?) h3
  simpa [hi] using this
theorem txt_inj {t u r q : List UInt8} (ht : t.length ≤ 1000000) (hu : u.length ≤ 1000000) (h : numB t.length ++ t ++ r = numB u.length ++ u ++ q) : t = u ∧ r = q := by
  rw [List.append_assoc, List.append_assoc] at h
  obtain ⟨h1, h2⟩ := numB_inj (isB_small (by omega) (by omega)) (isB_small (by omega) (by omega)) h
  exact List.append_inj h2 (by omega)
theorem fldW3 (F : Fld) (r : List UInt8) : fldW 3 F ++ r = numB 3 ++ (numB F.kind ++ (numB F.name.length ++ F.name ++ (numB F.epoch ++ (if F.kind = 2 then catN 4 F.lock ++ r else catN 579 F.cnt ++ (numB F.hn ++ (catN (5 * F.hn) F.hs ++ r)))))) := by
  unfold fldW preW cntW
  rw [show catN 2 (duo 3 F.kind) = numB 3 ++ numB F.kind by rw [catN_succ, catN_succ, catN_zero, List.nil_append]; rfl, if_pos rfl, if_neg (show ¬ (3 : Int) = 1 by decide)]
  by_cases hk : F.kind = 2
  · rw [if_pos hk, if_pos hk]; simp only [List.append_assoc]
  · rw [if_neg hk, if_neg hk]; simp only [List.append_assoc]
theorem right_kind {F : Fld} (h : rightF F = true) : isB F.epoch = true ∧ ((F.kind = 1 ∧ (∀ i, i < 4 → F.lock i = 0)) ∨ (F.kind = 2 ∧ (∀ i, i < 4 → isB (F.lock i) = true) ∧ F.hn = 0 ∧ ∀ i, i < 579 → F.cnt i = 0)) := by
  simp only [rightF, Bool.and_eq_true] at h
  refine ⟨h.1.2, ?_⟩
  have h2 := h.2
  split at h2
  · next hk =>
    simp only [Bool.and_eq_true] at h2
    exact .inl ⟨hk, eqI_iff.1 h2.2⟩
  · split at h2
    · next hk =>
      simp only [Bool.and_eq_true, decide_eq_true_eq] at h2
      refine .inr ⟨hk, fun i hi => ?_, h2.1.2, eqI_iff.1 h2.2⟩
      have hl := h2.1.1
      simp only [lockB, inK, cntB, Bool.and_eq_true, decide_eq_true_eq] at hl
      rcases lt_four hi with rfl | rfl | rfl | rfl
      · exact hl.1.1.1.2
      · exact hl.1.1.2.2
      · exact isB_small (by omega) (by omega)
      · exact hl.2
    · cases h2
theorem fldW_inj {F G : Fld} (hF : rightF F = true) (hG : rightF G = true) (h : fldW 3 F = fldW 3 G) : sameF F G = true := by
  have n1 := name_len (rightF_name hF)
  have n2 := name_len (rightF_name hG)
  have q1 := rightF_hn hF
  have q2 := rightF_hn hG
  obtain ⟨e1, k1⟩ := right_kind hF
  obtain ⟨e2, k2⟩ := right_kind hG
  have h' : fldW 3 F ++ [] = fldW 3 G ++ [] := by rw [h]
  rw [fldW3, fldW3] at h'
  have b3 : isB 3 = true := by decide
  have bk1 : isB F.kind = true := by rcases k1 with k | k <;> rw [k.1] <;> decide
  have bk2 : isB G.kind = true := by rcases k2 with k | k <;> rw [k.1] <;> decide
  obtain ⟨-, h'⟩ := numB_inj b3 b3 h'
  obtain ⟨hk, h'⟩ := numB_inj bk1 bk2 h'
  obtain ⟨hn, h'⟩ := txt_inj (by omega) (by omega) h'
  obtain ⟨he, h'⟩ := numB_inj e1 e2 h'
  unfold sameF hsB
  rw [hn, hk, he]
  simp only [beq_self_eq_true, Bool.true_and, Bool.and_eq_true, eqI_iff, decide_eq_true_eq]
  rcases k1 with ⟨z1, k1⟩ | ⟨z1, l1, m1, c1⟩
  · rcases k2 with ⟨z2, k2⟩ | ⟨z2, -⟩
    · rw [z1, z2, if_neg (by decide), if_neg (by decide)] at h'
      obtain ⟨a1, h'⟩ := catN_inj (right_cnt3 hF z1) (right_cnt3 hG z2) h'
      obtain ⟨a2, h'⟩ := numB_inj (isB_small (by omega) (by omega)) (isB_small (by omega) (by omega)) h'
      have a2 : F.hn = G.hn := by omega
      have b1 := right_holds hF z1
      have b2 := right_holds hG z2
      rw [← a2] at h' b2
      obtain ⟨a3, -⟩ := catN_inj b1 b2 h'
      exact ⟨⟨a1, fun i hi => by rw [k1 i hi, k2 i hi]⟩, a2, a3⟩
    · rw [z1, z2] at hk; exact absurd hk (by decide)
  · rcases k2 with ⟨z2, -⟩ | ⟨z2, l2, m2, c2⟩
    · rw [z1, z2] at hk; exact absurd hk (by decide)
    · rw [z1, z2, if_pos rfl, if_pos rfl] at h'
      obtain ⟨a1, -⟩ := catN_inj l1 l2 h'
      refine ⟨⟨fun i hi => by rw [c1 i hi, c2 i hi], a1⟩, by rw [m1, m2], fun i hi => ?_⟩
      rw [m1] at hi
      omega
theorem fldsW_inj {L M : Nat → Fld} : ∀ (n : Nat) {r q : List UInt8}, (∀ i, i < n → rightF (L i) = true) → (∀ i, i < n → rightF (M i) = true) → fldsW 3 L n ++ r = fldsW 3 M n ++ q → (∀ i, i < n → sameF (L i) (M i) = true) ∧ r = q
  | 0, r, q, _, _, h => ⟨fun i hi => by omega, by simpa [fldsW] using h⟩
  | n + 1, r, q, h1, h2, h => by
    rw [fldsW, fldsW, List.append_assoc, List.append_assoc] at h
    obtain ⟨h3, h4⟩ := fldsW_inj n (fun i hi => h1 i (by omega)) (fun i hi => h2 i (by omega)) h
    have l1 := fldW_len (v := 3) (h1 n (by omega))
    have l2 := fldW_len (v := 3) (h2 n (by omega))
    obtain ⟨h5, h6⟩ := txt_inj (by omega) (by omega) h4
    refine ⟨fun i hi => ?_, h6⟩
    by_cases e : i = n
    · subst e; exact fldW_inj (h1 i (by omega)) (h2 i (by omega)) h5
    · exact h3 i (by omega)
theorem fieldsW_inj {F G : FS} {r q : List UInt8} (hF : fldsB F.n F.l = true) (hG : fldsB G.n G.l = true) (h : fieldsW F ++ r = fieldsW G ++ q) : sameL F G = true ∧ r = q := by
  obtain ⟨f1, f2⟩ := fldsB_right hF
  obtain ⟨g1, g2⟩ := fldsB_right hG
  unfold fieldsW at h
  rw [List.append_assoc, List.append_assoc] at h
  obtain ⟨h1, h2⟩ := numB_inj (isB_small (by omega) (by omega)) (isB_small (by omega) (by omega)) h
  have h1 : F.n = G.n := by omega
  rw [← h1] at h2 g2
  obtain ⟨h3, h4⟩ := fldsW_inj F.n f2 g2 h2
  refine ⟨?_, h4⟩
  unfold sameL
  rw [allSame_yes h3, decide_eq_true h1]; rfl
theorem planW_inj {p o : Pl} {i j : Bool} {r q : List UInt8} (hp : maybeB p i = true) (ho : maybeB o j = true) (h : planW p ++ r = planW o ++ q) : p = o ∧ r = q := by
  have n1 := maybe_names hp
  have n2 := maybe_names ho
  have b1 := maybe_isB hp
  have b2 := maybe_isB ho
  have e : ∀ (p : Pl) (r : List UInt8), planW p ++ r = catB [p.k, p.a, p.b] ++ (numB p.n.length ++ p.n ++ (numB p.o.length ++ p.o ++ r)) := fun p r => by
    unfold planW
    simp only [List.append_assoc]
  rw [e, e] at h
  obtain ⟨h1, h2⟩ := catB_inj (l := [p.k, p.a, p.b]) (k := [o.k, o.a, o.b]) (fun x hx => by simp only [List.mem_cons, List.not_mem_nil, or_false] at hx; rcases hx with rfl | rfl | rfl <;> first | exact b1.1 | exact b1.2.1 | exact b1.2.2) (fun x hx => by simp only [List.mem_cons, List.not_mem_nil, or_false] at hx; rcases hx with rfl | rfl | rfl <;> first | exact b2.1 | exact b2.2.1 | exact b2.2.2) rfl h
  obtain ⟨h3, h4⟩ := txt_inj (by omega) (by omega) h2
  obtain ⟨h5, h6⟩ := txt_inj (by omega) (by omega) h4
  injection h1 with c1 h1
  injection h1 with c2 h1
  injection h1 with c3 _
  obtain ⟨k, n, o1, a, b⟩ := p
  obtain ⟨k', n', o1', a', b'⟩ := o
  dsimp only at *
  subst c1 c2 c3 h3 h5
  exact ⟨rfl, h6⟩
theorem eqPl_refl (p : Pl) : eqPl p p = true := by simp [eqPl]
theorem sameF_refl {F G : Fld} (h1 : F.name = G.name) (h2 : F.kind = G.kind) (h3 : F.epoch = G.epoch) (h4 : F.cnt = G.cnt) (h5 : F.lock = G.lock) (h6 : F.hn = G.hn) (h7 : F.hs = G.hs) : sameF F G = true := by
  unfold sameF hsB
  rw [h1, h2, h3, h4, h5, h6, h7]
  simp [eqI]
theorem sameF_re (L : Nat → Fld) (H : Nat → Option Addr × Nat) (i : Nat) : sameF (reF L H i) (L i) = true := sameF_refl rfl rfl rfl rfl rfl rfl rfl
theorem sameF_er (L : Nat → Fld) (H : Nat → Option Addr × Nat) (i : Nat) : sameF (L i) (reF L H i) = true := sameF_refl rfl rfl rfl rfl rfl rfl rfl
theorem sameL_re (F : FS) (A : Option Addr) (c : Nat) (H : Nat → Option Addr × Nat) : sameL ⟨A, F.n, c, reF F.l H⟩ F = true := by
  unfold sameL
  rw [allSame_yes fun i _ => sameF_re F.l H i, decide_eq_true rfl]; rfl
theorem sameL_er (F : FS) (A : Option Addr) (c : Nat) (H : Nat → Option Addr × Nat) : sameL F ⟨A, F.n, c, reF F.l H⟩ = true := by
  unfold sameL
  rw [allSame_yes fun i _ => sameF_er F.l H i, decide_eq_true rfl]; rfl
theorem sameL_refl (F : FS) : sameL F F = true := by
  unfold sameL
  rw [allSame_yes fun i _ => sameF_refl rfl rfl rfl rfl rfl rfl rfl, decide_eq_true rfl]; rfl
theorem staW_cat (s : Sta) : staW s = catB [s.self, s.nn, s.clk, s.dec, s.frz] ++ (planW s.p ++ (fieldsW s.f ++ (if s.self = 0 then barW s else []))) := by
  unfold staW
  simp only [List.append_assoc]
theorem barW_cat (s : Sta) : barW s = catB [s.bst, s.bnum, s.bep, s.due, s.ack, s.told] ++ (planW s.bp ++ (fieldsW s.j ++ (fieldsW s.m ++ []))) := by
  unfold barW
  simp only [List.append_assoc, List.append_nil]
theorem noBar_is {s : Sta} (h : noBar s = true) : s.j.n = 0 ∧ s.m.n = 0 ∧ s.bn = 0 ∧ s.bst = 0 ∧ s.bnum = 0 ∧ s.bep = 0 ∧ s.due = 0 ∧ s.ack = 0 ∧ s.told = 0 ∧ s.bp = pl0 := by
  simp only [noBar, Bool.and_eq_true, beq_iff_eq] at h
  obtain ⟨⟨⟨⟨⟨⟨⟨⟨h1, h2⟩, h3⟩, h4⟩, h5⟩, h6⟩, h7⟩, h8⟩, h9⟩ := h
  exact ⟨by omega, by omega, h2, h3, h4, h5, h6, h7, h8, zeroPl_is h9⟩
theorem sameL_nil {F G : FS} (h : F.n = 0) (h' : G.n = 0) : sameL F G = true := by
  unfold sameL
  rw [h, h']
  rfl
theorem staW_inj {a b : Sta} (ha : rightS a = true) (hb : rightS b = true) (h : staW a = staW b) : sameSB a b = true := by
  obtain ⟨p1, p2, p3, p4⟩ := rightS_parts ha
  obtain ⟨q1, q2, q3, q4⟩ := rightS_parts hb
  rw [staW_cat, staW_cat] at h
  obtain ⟨e1, h⟩ := catB_inj (rightS_nums ha) (rightS_nums hb) rfl h
  injection e1 with s1 e1
  injection e1 with s2 e1
  injection e1 with s3 e1
  injection e1 with s4 e1
  injection e1 with s5 e1
  obtain ⟨s6, h⟩ := planW_inj p1 q1 h
  obtain ⟨s7, h⟩ := fieldsW_inj p2 q2 h
  unfold sameSB
  rw [s1, s2, s3, s4, s5, s6, s7]
  simp only [beq_self_eq_true, eqPl_refl, Bool.true_and, Bool.and_true]
  by_cases hz : b.self = 0
  · have hz' : a.self = 0 := by rw [s1]; exact hz
    rw [if_pos hz, if_pos hz', barW_cat, barW_cat] at h
    obtain ⟨u1, u2, u3⟩ := led_parts (p3 hz')
    obtain ⟨v1, v2, v3⟩ := led_parts (q3 hz)
    obtain ⟨n1, m1⟩ := led_nums (p3 hz')
    obtain ⟨n2, m2⟩ := led_nums (q3 hz)
    obtain ⟨e1, h⟩ := catB_inj n1 n2 rfl h
    injection e1 with t1 e1
    injection e1 with t2 e1
    injection e1 with t3 e1
    injection e1 with t4 e1
    injection e1 with t5 e1
    injection e1 with t6 e1
    obtain ⟨t7, h⟩ := planW_inj u1 v1 h
    obtain ⟨t8, h⟩ := fieldsW_inj u2 v2 h
    obtain ⟨t9, h⟩ := fieldsW_inj u3 v3 h
    rw [t1, t2, t3, t4, t5, t6, t7, t8, t9, m1, m2, s2]
    simp only [beq_self_eq_true, eqPl_refl, Bool.true_and, Bool.and_true]
  · have hz' : ¬ a.self = 0 := by rw [s1]; exact hz
    obtain ⟨u1, u2, u3, u4, u5, u6, u7, u8, u9, u10⟩ := noBar_is (p4 hz')
    obtain ⟨v1, v2, v3, v4, v5, v6, v7, v8, v9, v10⟩ := noBar_is (q4 hz)
    rw [u3, u4, u5, u6, u7, u8, u9, u10, v3, v4, v5, v6, v7, v8, v9, v10, sameL_nil u1 v1, sameL_nil u2 v2]
    rfl
theorem sameF_bytes {F G : Fld} (h : sameF F G = true) : fldW 3 F = fldW 3 G := by
  simp only [sameF, hsB, Bool.and_eq_true, beq_iff_eq, decide_eq_true_eq, eqI_iff, strT_toList] at h
  obtain ⟨⟨⟨⟨⟨h1, h2⟩, h3⟩, h4⟩, h5⟩, h6, h7⟩ := h
  unfold fldW preW cntW
  rw [h1, h2, h3, h6, catN_congr h4, catN_congr h5, catN_congr (show ∀ i, i < 5 * G.hn → F.hs i = G.hs i by rw [← h6]; exact h7)]
theorem sameL_bytes {F G : FS} (h : sameL F G = true) : fieldsW F = fieldsW G := by
  simp only [sameL, Bool.and_eq_true, decide_eq_true_eq, List.all_eq_true, List.mem_range] at h
  unfold fieldsW
  have e : ∀ n, n ≤ F.n → fldsW 3 F.l n = fldsW 3 G.l n := by
    intro n
    induction n with
    | zero => intro _; rfl
    | succ n ih => intro hn; rw [fldsW, fldsW, ih (by omega), sameF_bytes (h.2 n (by omega))]
  rw [e F.n (Nat.le_refl _), h.1]
theorem eqPl_is {p q : Pl} (h : eqPl p q = true) : p = q := by
  simp only [eqPl, Bool.and_eq_true, decide_eq_true_eq] at h
  obtain ⟨k, n, o, a, b⟩ := p
  obtain ⟨k', n', o', a', b'⟩ := q
  dsimp only at h
  obtain ⟨⟨⟨⟨rfl, rfl⟩, rfl⟩, rfl⟩, rfl⟩ := h
  rfl
theorem same_bytes {a b : Sta} (h : sameSB a b = true) : staW a = staW b := by
  simp only [sameSB, Bool.and_eq_true, beq_iff_eq] at h
  obtain ⟨⟨⟨⟨⟨⟨⟨⟨⟨⟨⟨⟨⟨⟨⟨⟨a1, a2⟩, a3⟩, a4⟩, a5⟩, a6⟩, a7⟩, a8⟩, a9⟩, a10⟩, a11⟩, a12⟩, a13⟩, a14⟩, a15⟩, a16⟩, a17⟩ := h
  unfold staW barW
  rw [a1, a2, a3, a4, a5, eqPl_is a6, sameL_bytes a7, a9, a10, a11, eqPl_is a12, a13, a14, a15, sameL_bytes a16, sameL_bytes a17]
theorem bytes_same {a b : Sta} (ha : rightS a = true) (hb : rightS b = true) : decide (staW a = staW b) = sameSB a b := by
  cases h : sameSB a b
  · exact decide_eq_false fun e => by rw [staW_inj ha hb e] at h; cases h
  · exact decide_eq_true (same_bytes h)
end Go.Proofs.YtinhaipnmmgplaaGreat

/-
  Layer 17 (state): New.
-/
namespace Go.Proofs.YtinhaipnmmgplaaGreat
set_option maxRecDepth 20000
open Go.RowKit
set_option linter.unusedSimpArgs false
set_option linter.unusedVariables false
attribute [local go_sem] rowCells rowAt_drewN get_ints getE_ints set_ints size_ints rowAt_alloc rowAt_drew setRow_alloc setRow_drewN setRow_drew setCell_alloc setCell_drewN splice_upd splice_put splice_all load_vec_cut load_vecs_cut load_rights_cut load_counter store_vec store_rights store_counter eql_vec neq_vec index_vec eql_rights neq_rights eql_counter index_vecs cut_ints sub_zero
attribute [local go_sem ↓] xload_vec xstore_vec xalloc_vec xeql_vec xneq_vec xindex_vec xbuild_vec0 xload_rights xstore_rights xalloc_rights xeql_rights xneq_rights xbuild_rights0 xload_vecs xindex_vecs xload_counter xstore_counter xalloc_counter xbuild_counter0 xeql_counter xbuild_counter3
attribute [local go_sem] rowAt_setRow rowAt_setCell load_vec_cut_later load_rights_later load_counter_later Later.cell Later.frozen build3_ints
attribute [local go_sem ↓] xload_field xstore_field xalloc_field xload_lock
attribute [local go_sem] load_field load_field_later store_field load_counter_cut load_lock_cut load_lock_later Fld.size Fld.get0 Fld.get1 Fld.get2 Fld.get586 Fld.getE0 Fld.getE1 Fld.getE2 Fld.getE586 Fld.cut_cnt Fld.cut_lock Fld.cut_all Fld.splice_all strT_size

attribute [local go_sem ↓] xload_hold xstore_hold xalloc_hold
attribute [local go_sem] load_hold load_hold_later store_hold
attribute [local go_sem ↓] xbuild_lock0 xeql_lock xneq_lock xneq_counter
attribute [local go_sem] eql_lock neq_lock neq_counter

attribute [local go_sem] zero_field
attribute [local go_sem] resC_size resC_all resC_splice resC_set0 resC_set1 Fld.set2 Fld.set586
attribute [local go_sem ↓] xbuildS_field
attribute [local go_sem] buildSF_agg
attribute [local go_sem ↓] xstore_sta xload_sta xalloc_sta xbuild_sta0 xstore_bar xload_bar xalloc_bar xbuild_bar0 xstore_plan xload_plan xalloc_plan xbuild_plan0
attribute [local go_sem] load_sta load_sta_later store_sta load_bar load_bar_later store_bar load_plan load_plan_later store_plan
attribute [local go_sem] Sta.size Sta.bsize Pl.size Sta.cut_all Sta.cut_p Sta.cut_bar Sta.cut_bp Sta.bcut_all Sta.bcut_p Pl.cut_all Sta.splice_all Sta.bsplice_all Pl.splice_all Sta.splice_bar
attribute [local go_sem] Sta.get0 Sta.getE0 Sta.set0 Sta.get1 Sta.getE1 Sta.set1 Sta.get2 Sta.getE2 Sta.set2 Sta.get3 Sta.getE3 Sta.set3 Sta.get4 Sta.getE4 Sta.set4 Sta.get5 Sta.getE5 Sta.set5 Sta.get6 Sta.getE6 Sta.set6 Sta.get7 Sta.getE7 Sta.set7 Sta.get8 Sta.getE8 Sta.set8 Sta.get9 Sta.getE9 Sta.set9 Sta.get10 Sta.getE10 Sta.set10 Sta.get11 Sta.getE11 Sta.set11 Sta.get12 Sta.getE12 Sta.set12 Sta.get13 Sta.getE13 Sta.set13 Sta.get14 Sta.getE14 Sta.set14 Sta.get15 Sta.getE15 Sta.set15 Sta.get16 Sta.getE16 Sta.set16 Sta.get17 Sta.getE17 Sta.set17 Sta.get18 Sta.getE18 Sta.set18 Sta.get19 Sta.getE19 Sta.set19 Sta.get20 Sta.getE20 Sta.set20 Sta.get21 Sta.getE21 Sta.set21 Sta.get22 Sta.getE22 Sta.set22 Sta.get23 Sta.getE23 Sta.set23 Sta.get24 Sta.getE24 Sta.set24
attribute [local go_sem] Sta.bget0 Sta.bgetE0 Sta.bget1 Sta.bgetE1 Sta.bget2 Sta.bgetE2 Sta.bget3 Sta.bgetE3 Sta.bget4 Sta.bgetE4 Sta.bget5 Sta.bgetE5 Sta.bget6 Sta.bgetE6 Sta.bget7 Sta.bgetE7 Sta.bget8 Sta.bgetE8 Sta.bget9 Sta.bgetE9 Sta.bget10 Sta.bgetE10 Sta.bget11 Sta.bgetE11 Sta.bget12 Sta.bgetE12 Sta.bget13 Sta.bgetE13 Pl.get0 Pl.getE0 Pl.get1 Pl.getE1 Pl.get2 Pl.getE2 Pl.get3 Pl.getE3 Pl.get4 Pl.getE4

section
variable (ρ : Operand → Value) (d : Option Tmp) (T : TypeId) (p : String) (af : Array Edge) (gd : Option (Nat × Bool)) (x y z : Operand) (w : World)
noncomputable def buildB1 (w : World) (u : Value) : Result Next := ((do pure (Next.value (← Instr.build 28 #[(0, u)])) : Sem Next)).run Tryz.prog w
theorem xbuild_bar1 : (execOp ρ ⟨d, .build 28 #[(0, x)], T, p, af, gd⟩).run Tryz.prog w = buildB1 w (ρ x) := by simp [execOp, buildB1]
noncomputable def buildS3 (w : World) (u v t : Value) : Result Next := ((do pure (Next.value (← Instr.build 30 #[(0, u), (1, v), (6, t)])) : Sem Next)).run Tryz.prog w
theorem xbuild_sta3 : (execOp ρ ⟨d, .build 30 #[(0, x), (1, y), (6, z)], T, p, af, gd⟩).run Tryz.prog w = buildS3 w (ρ x) (ρ y) (ρ z) := by simp [execOp, buildS3]
end
theorem buildB1_bar (w : World) (n : Int) : buildB1 w (.int .i64 n) = .ok (.value (.agg ({ sta0 with bn := n } : Sta).bar)) w := by kernel_rfl
def newS (a b : Int) (A : Option Addr) (n c : Nat) : Array Value := #[.int .i64 a, .int .i64 b, .int .i64 0, .int .i64 0, .int .i64 0, .int .i64 0, .string (strT []), .string (strT []), .int .i64 0, .int .i64 0, .slice A n c, .int .i64 0, .int .i64 0, .int .i64 0, .int .i64 0, .int .i64 0, .string (strT []), .string (strT []), .int .i64 0, .int .i64 0, .int .i64 0, .int .i64 0, .int .i64 0, .slice none 0 0, .slice none 0 0]
theorem buildS3_sta (w : World) (a b : Int) (A : Option Addr) (n c : Nat) : buildS3 w (.int .i64 a) (.int .i64 b) (.slice A n c) = .ok (.value (.agg (newS a b A n c))) w := by kernel_rfl
theorem newS_sta (a b : Int) (A : Option Addr) (n c : Nat) (L : Nat → Fld) : newS a b A n c = ({ sta0 with self := a, nn := b, f := ⟨A, n, c, L⟩ } : Sta).cells := rfl
theorem load_bar_row {w : World} {g : Nat} {t : Sta} {T : TypeId} (h : rowAt w g = some (t.bar, T)) : loadAgg Tryz.prog w 28 (.pointer (some ⟨g, 0, none⟩)) = .ok (.value (.agg t.bar)) w := by
  have hc : rowCells w g = t.bar := by simp [rowCells, h]
  rw [load_bar w g 0 (by rw [h]; rfl) (by rw [hc, t.bsize]; exact Nat.le_refl _), hc, t.bcut_all]
attribute [local go_sem ↓] xbuild_bar1 xbuild_sta3
attribute [local go_sem] buildB1_bar
theorem barNew_no (n : Int) (w : World) (h : n < 2 ∨ 16 < n) : Calls Tryz.prog 13 #[.int .i64 n] w fun e w' => e = .returned (.tuple #[.agg sta0.bar, .int .i64 1]) ∧ Below w.heap.size w w' := by
  by_cases h1 : n < 2
  · have g1 : decide (n < 2) = true := decide_eq_true h1
    clear h
    go_enter Tryz.func13, Tryz.ntmps13
    go_wp2_with fail
    refine ret_ct (u := .int .i64 1) (by rfl) (by with_unfolding_all rfl) (by with_unfolding_all rfl) (by rfl) (load_bar_row (rowAt_alloc_at _ _ _ _ rfl)) ?_
    exact ⟨rfl, below_allocS (Below.refl _ _) _⟩
  · have g1 : decide (n < 2) = false := decide_eq_false h1
    have g2 : decide (16 < n) = true := decide_eq_true (by omega)
    clear h
    go_enter Tryz.func13, Tryz.ntmps13
    go_wp2_with fail
    refine ret_ct (u := .int .i64 1) (by rfl) (by with_unfolding_all rfl) (by with_unfolding_all rfl) (by rfl) (load_bar_row (rowAt_alloc_at _ _ _ _ rfl)) ?_
    exact ⟨rfl, below_allocS (Below.refl _ _) _⟩
theorem barNew_ok (n : Int) (w : World) (h1 : 2 ≤ n) (h2 : n ≤ 16) : Calls Tryz.prog 13 #[.int .i64 n] w fun e w' => e = .returned (.tuple #[.agg ({ sta0 with bn := n } : Sta).bar, .int .i64 0]) ∧ Below w.heap.size w w' := by
  have g1 : decide (n < 2) = false := decide_eq_false (by omega)
  have g2 : decide (16 < n) = false := decide_eq_false (by omega)
  clear h1 h2
  go_enter Tryz.func13, Tryz.ntmps13
  go_wp2_with fail
  refine ret_ct (u := .int .i64 0) (by rfl) (by with_unfolding_all rfl) (by with_unfolding_all rfl) (by rfl) (load_bar_row (rowAt_alloc_at _ _ _ _ rfl)) ?_
  exact ⟨rfl, below_allocS (Below.refl _ _) _⟩

def newSta (self n : Int) (F : FS) (A : Option Addr) (c : Nat) (H : Nat → Option Addr × Nat) : Sta := { sta0 with self := self, nn := n, f := ⟨A, F.n, c, reF F.l H⟩, bn := if self = 0 then n else 0 }
set_option maxHeartbeats 8000000 in
theorem snew_ok (self n : Int) (F : FS) (w : World) (hF : FSOk w F) (h1 : ¬ n < 2) (h2 : ¬ 16 < n) (h3 : ¬ self < 0) (h4 : ¬ n ≤ self) (h5 : fldsB F.n F.l = true) :
    Calls Tryz.prog 6 #[.int .i64 self, .int .i64 n, .slice F.A F.n F.c] w fun e w' => ∃ A c H, e = .returned (.tuple #[.agg (newSta self n F A c H).cells, .int .i64 0]) ∧ OwnF w' w.heap.size F.l F.n A c H ∧ Below w.heap.size w w' := by
  obtain ⟨hn4, hrt⟩ := fldsB_right h5
  have HF := Lib.hid hF
  have H5 := Lib.hid h5
  have HN1 : Hid (F.n ≤ 1000) := Lib.hid (by omega)
  have HHN : Hid (∀ i, i < F.n → (F.l i).hn ≤ 1000000) := Lib.hid fun i hi => Nat.le_trans (rightF_hn (hrt i hi)) (by decide)
  have HA1 : Hid (2 ≤ n) := Lib.hid (by omega)
  have HA2 : Hid (n ≤ 16) := Lib.hid (by omega)
  have g3 : decide (self < 0) = false := decide_eq_false h3
  have g4 : decide (n ≤ self) = false := decide_eq_false h4
  clear hF h5 hrt h1 h2 h3 h4 hn4
  go_enter Tryz.func6, Tryz.ntmps6
  go_wp2_with fail
  refine (barNew_ok n _ HA1.out HA2.out).mono ?_
  rintro e w1 ⟨rfl, hb⟩
  have r1 : rowAt w1 w.heap.size = some (sta0.cells, 30) := rowKeep hb (rowAt_alloc_at _ _ _ _ rfl)
  have HB1 := Lib.hid (bthen (below_allocS (Below.refl _ _) _) hb)
  clear hb HA1 HA2
  go_upto_region 2 with fail
  obtain ⟨q, hq⟩ : ∃ q, w1.heap.size = q := ⟨_, rfl⟩
  have r2 : rowAt (w1.alloc (.cells ({ sta0 with bn := n } : Sta).bar 28)) w.heap.size = some (sta0.cells, 30) := rowPast r1
  have rq : rowAt (w1.alloc (.cells ({ sta0 with bn := n } : Sta).bar 28)) q = some (({ sta0 with bn := n } : Sta).bar, 28) := rowAt_alloc_at _ _ _ _ hq.symm
  have hb2 : Below w.heap.size w (w1.alloc (.cells ({ sta0 with bn := n } : Sta).bar 28)) := below_allocS HB1.out _
  rw [hq]
  generalize w1.alloc (.cells ({ sta0 with bn := n } : Sta).bar 28) = W2 at *
  have HB2 := Lib.hid hb2
  clear hb2 r1 HB1 hq
  refine region_seq ?_
  repeat (go_big_quiet_step ((first | (go_at_call 14; exact quiet_call (by simp) (fields_at H5.out ((HF.out.below HB2.out).below (Later.below _)))))))
  refine wpQuiet_nil ?_
  intro w3 hb3
  have r3 := rowKeep hb3 r2
  have r3q := rowKeep hb3 rq
  have HB3 := Lib.hid (bthen HB2.out hb3)
  clear hb3 r2 rq HB2 H5
  go_wp2_with fail
  refine (sown_ok F _ (HF.out.below HB3.out) HN1.out HHN.out).mono ?_
  rintro e w4 ⟨A, c, H, rfl, hown, hb⟩
  have r4 := rowKeep hb r3
  have r4q := rowKeep hb r3q
  have HB4 := Lib.hid (bthen HB3.out hb)
  have HO4 := Lib.hid hown
  have hsz : w.heap.size ≤ w3.heap.size := HB3.out.size
  have hsw := hb.size
  clear hb hown r3 r3q HF HN1 HHN
  have hbs := fun (w : World) => (buildS3_sta w self n A F.n c).trans (by rw [newS_sta self n A F.n c (reF F.l H)])
  obtain ⟨t, ht⟩ : ∃ t : Sta, ({ sta0 with self := self, nn := n, f := ⟨A, F.n, c, reF F.l H⟩ } : Sta) = t := ⟨_, rfl⟩
  rw [ht] at hbs
  have HT := Lib.hid ht
  clear ht
  have n4 := rowAt_lt r4
  have n4q := rowAt_lt r4q
  cases hz : decide (self = 0)
  · have hz' : (self == 0) = false := by simpa using hz
    have hne : ¬ self = 0 := of_decide_eq_false hz
    have HNE := Lib.hid hne
    clear hne
    go_wp2_with fail
    refine ret_ct (u := .int .i64 0) (v := .agg t.cells) (by rfl) (by with_unfolding_all rfl) (by with_unfolding_all rfl) (by rfl) (load_sta_row (rowPast (rowAt_setRow_same _ r4))) ?_
    refine ⟨A, c, H, by unfold newSta; rw [if_neg HNE.out, ← HT.out]; rfl, ?_, below_allocS (below_setRow' HB4.out (Nat.le_refl _) _) _⟩
    exact ((HO4.out.only (Only.setRow _) r4 (by decide) (by decide)).mono hsz).below ((Below.refl _ _).alloc (Nat.le_refl _) _)
  · have hz' : (self == 0) = true := by simpa using hz
    have he : self = 0 := of_decide_eq_true hz
    have HE := Lib.hid he
    clear he
    go_wp2_with fail
    refine ret_ct (u := .int .i64 0) (by rfl) (by with_unfolding_all rfl) (by with_unfolding_all rfl) (by rfl) (load_sta_row (rowPast (rowAt_setRow_same _ r4))) ?_
    refine ⟨A, c, H, by unfold newSta; rw [if_pos HE.out, ← HT.out, HE.out], ?_, below_allocS (below_setRow' HB4.out (Nat.le_refl _) _) _⟩
    exact ((HO4.out.only (Only.setRow _) r4 (by decide) (by decide)).mono hsz).below ((Below.refl _ _).alloc (Nat.le_refl _) _)
end Go.Proofs.YtinhaipnmmgplaaGreat

/-
  Layer 17 (state): Few.
-/
namespace Go.Proofs.YtinhaipnmmgplaaGreat
set_option maxRecDepth 20000
open Go.RowKit
set_option linter.unusedSimpArgs false
set_option linter.unusedVariables false
attribute [local go_sem] rowCells rowAt_drewN get_ints getE_ints set_ints size_ints rowAt_alloc rowAt_drew setRow_alloc setRow_drewN setRow_drew setCell_alloc setCell_drewN splice_upd splice_put splice_all load_vec_cut load_vecs_cut load_rights_cut load_counter store_vec store_rights store_counter eql_vec neq_vec index_vec eql_rights neq_rights eql_counter index_vecs cut_ints sub_zero
attribute [local go_sem ↓] xload_vec xstore_vec xalloc_vec xeql_vec xneq_vec xindex_vec xbuild_vec0 xload_rights xstore_rights xalloc_rights xeql_rights xneq_rights xbuild_rights0 xload_vecs xindex_vecs xload_counter xstore_counter xalloc_counter xbuild_counter0 xeql_counter xbuild_counter3
attribute [local go_sem] rowAt_setRow rowAt_setCell load_vec_cut_later load_rights_later load_counter_later Later.cell Later.frozen build3_ints
attribute [local go_sem ↓] xload_field xstore_field xalloc_field xload_lock
attribute [local go_sem] load_field load_field_later store_field load_counter_cut load_lock_cut load_lock_later Fld.size Fld.get0 Fld.get1 Fld.get2 Fld.get586 Fld.getE0 Fld.getE1 Fld.getE2 Fld.getE586 Fld.cut_cnt Fld.cut_lock Fld.cut_all Fld.splice_all strT_size

attribute [local go_sem ↓] xload_hold xstore_hold xalloc_hold
attribute [local go_sem] load_hold load_hold_later store_hold
attribute [local go_sem ↓] xbuild_lock0 xeql_lock xneq_lock xneq_counter
attribute [local go_sem] eql_lock neq_lock neq_counter

attribute [local go_sem] zero_field
attribute [local go_sem] resC_size resC_all resC_splice resC_set0 resC_set1 Fld.set2 Fld.set586
attribute [local go_sem ↓] xbuildS_field
attribute [local go_sem] buildSF_agg
attribute [local go_sem ↓] xstore_sta xload_sta xalloc_sta xbuild_sta0 xstore_bar xload_bar xalloc_bar xbuild_bar0 xstore_plan xload_plan xalloc_plan xbuild_plan0
attribute [local go_sem] load_sta load_sta_later store_sta load_bar load_bar_later store_bar load_plan load_plan_later store_plan
attribute [local go_sem] Sta.size Sta.bsize Pl.size Sta.cut_all Sta.cut_p Sta.cut_bar Sta.cut_bp Sta.bcut_all Sta.bcut_p Pl.cut_all Sta.splice_all Sta.bsplice_all Pl.splice_all Sta.splice_bar
attribute [local go_sem] Sta.get0 Sta.getE0 Sta.set0 Sta.get1 Sta.getE1 Sta.set1 Sta.get2 Sta.getE2 Sta.set2 Sta.get3 Sta.getE3 Sta.set3 Sta.get4 Sta.getE4 Sta.set4 Sta.get5 Sta.getE5 Sta.set5 Sta.get6 Sta.getE6 Sta.set6 Sta.get7 Sta.getE7 Sta.set7 Sta.get8 Sta.getE8 Sta.set8 Sta.get9 Sta.getE9 Sta.set9 Sta.get10 Sta.getE10 Sta.set10 Sta.get11 Sta.getE11 Sta.set11 Sta.get12 Sta.getE12 Sta.set12 Sta.get13 Sta.getE13 Sta.set13 Sta.get14 Sta.getE14 Sta.set14 Sta.get15 Sta.getE15 Sta.set15 Sta.get16 Sta.getE16 Sta.set16 Sta.get17 Sta.getE17 Sta.set17 Sta.get18 Sta.getE18 Sta.set18 Sta.get19 Sta.getE19 Sta.set19 Sta.get20 Sta.getE20 Sta.set20 Sta.get21 Sta.getE21 Sta.set21 Sta.get22 Sta.getE22 Sta.set22 Sta.get23 Sta.getE23 Sta.set23 Sta.get24 Sta.getE24 Sta.set24
attribute [local go_sem] Sta.bget0 Sta.bgetE0 Sta.bget1 Sta.bgetE1 Sta.bget2 Sta.bgetE2 Sta.bget3 Sta.bgetE3 Sta.bget4 Sta.bgetE4 Sta.bget5 Sta.bgetE5 Sta.bget6 Sta.bgetE6 Sta.bget7 Sta.bgetE7 Sta.bget8 Sta.bgetE8 Sta.bget9 Sta.bgetE9 Sta.bget10 Sta.bgetE10 Sta.bget11 Sta.bgetE11 Sta.bget12 Sta.bgetE12 Sta.bget13 Sta.bgetE13 Pl.get0 Pl.getE0 Pl.get1 Pl.getE1 Pl.get2 Pl.getE2 Pl.get3 Pl.getE3 Pl.get4 Pl.getE4

def few17 (s : Sta) : Bool := few13B s.f.n s.f.l s.p.n s.p.o && few13B s.j.n s.j.l s.bp.n s.bp.o && few13B s.m.n s.m.l s.bp.n s.bp.o
theorem few13_at {F : FS} {p : Pl} {b : Bool} (e : few13B F.n F.l p.n p.o = b) {w : World} (h : FSOk w F) : Calls Tryz.prog 4 #[.slice F.A F.n F.c, .agg p.cells] w fun e w' => e = .returned (.bool b) ∧ Below w.heap.size w w' := by
  rw [← e]; exact few13_any F.A F.c F.n F.l p.k p.n p.o p.a p.b w h.is (Nat.le_trans h.le h.big)
theorem few17_parts {s : Sta} (h : few17 s = true) : s.f.n ≤ 8 ∧ s.j.n ≤ 8 ∧ s.m.n ≤ 8 := by
  simp only [few17, few13B, Bool.and_eq_true, decide_eq_true_eq] at h
  exact ⟨h.1.1.1.1.1, h.1.2.1.1.1, h.2.1.1.1⟩
end Go.Proofs.YtinhaipnmmgplaaGreat

/-
  Layer 17 (state): awake.
-/
namespace Go.Proofs.YtinhaipnmmgplaaGreat
set_option maxRecDepth 20000
open Go.RowKit
set_option linter.unusedSimpArgs false
set_option linter.unusedVariables false
attribute [local go_sem] rowCells rowAt_drewN get_ints getE_ints set_ints size_ints rowAt_alloc rowAt_drew setRow_alloc setRow_drewN setRow_drew setCell_alloc setCell_drewN splice_upd splice_put splice_all load_vec_cut load_vecs_cut load_rights_cut load_counter store_vec store_rights store_counter eql_vec neq_vec index_vec eql_rights neq_rights eql_counter index_vecs cut_ints sub_zero
attribute [local go_sem ↓] xload_vec xstore_vec xalloc_vec xeql_vec xneq_vec xindex_vec xbuild_vec0 xload_rights xstore_rights xalloc_rights xeql_rights xneq_rights xbuild_rights0 xload_vecs xindex_vecs xload_counter xstore_counter xalloc_counter xbuild_counter0 xeql_counter xbuild_counter3
attribute [local go_sem] rowAt_setRow rowAt_setCell load_vec_cut_later load_rights_later load_counter_later Later.cell Later.frozen build3_ints
attribute [local go_sem ↓] xload_field xstore_field xalloc_field xload_lock
attribute [local go_sem] load_field load_field_later store_field load_counter_cut load_lock_cut load_lock_later Fld.size Fld.get0 Fld.get1 Fld.get2 Fld.get586 Fld.getE0 Fld.getE1 Fld.getE2 Fld.getE586 Fld.cut_cnt Fld.cut_lock Fld.cut_all Fld.splice_all strT_size

attribute [local go_sem ↓] xload_hold xstore_hold xalloc_hold
attribute [local go_sem] load_hold load_hold_later store_hold
attribute [local go_sem ↓] xbuild_lock0 xeql_lock xneq_lock xneq_counter
attribute [local go_sem] eql_lock neq_lock neq_counter

attribute [local go_sem] zero_field
attribute [local go_sem] resC_size resC_all resC_splice resC_set0 resC_set1 Fld.set2 Fld.set586
attribute [local go_sem ↓] xbuildS_field
attribute [local go_sem] buildSF_agg
attribute [local go_sem ↓] xstore_sta xload_sta xalloc_sta xbuild_sta0 xstore_bar xload_bar xalloc_bar xbuild_bar0 xstore_plan xload_plan xalloc_plan xbuild_plan0
attribute [local go_sem] load_sta load_sta_later store_sta load_bar load_bar_later store_bar load_plan load_plan_later store_plan
attribute [local go_sem] Sta.size Sta.bsize Pl.size Sta.cut_all Sta.cut_p Sta.cut_bar Sta.cut_bp Sta.bcut_all Sta.bcut_p Pl.cut_all Sta.splice_all Sta.bsplice_all Pl.splice_all Sta.splice_bar
attribute [local go_sem] Sta.get0 Sta.getE0 Sta.set0 Sta.get1 Sta.getE1 Sta.set1 Sta.get2 Sta.getE2 Sta.set2 Sta.get3 Sta.getE3 Sta.set3 Sta.get4 Sta.getE4 Sta.set4 Sta.get5 Sta.getE5 Sta.set5 Sta.get6 Sta.getE6 Sta.set6 Sta.get7 Sta.getE7 Sta.set7 Sta.get8 Sta.getE8 Sta.set8 Sta.get9 Sta.getE9 Sta.set9 Sta.get10 Sta.getE10 Sta.set10 Sta.get11 Sta.getE11 Sta.set11 Sta.get12 Sta.getE12 Sta.set12 Sta.get13 Sta.getE13 Sta.set13 Sta.get14 Sta.getE14 Sta.set14 Sta.get15 Sta.getE15 Sta.set15 Sta.get16 Sta.getE16 Sta.set16 Sta.get17 Sta.getE17 Sta.set17 Sta.get18 Sta.getE18 Sta.set18 Sta.get19 Sta.getE19 Sta.set19 Sta.get20 Sta.getE20 Sta.set20 Sta.get21 Sta.getE21 Sta.set21 Sta.get22 Sta.getE22 Sta.set22 Sta.get23 Sta.getE23 Sta.set23 Sta.get24 Sta.getE24 Sta.set24
attribute [local go_sem] Sta.bget0 Sta.bgetE0 Sta.bget1 Sta.bgetE1 Sta.bget2 Sta.bgetE2 Sta.bget3 Sta.bgetE3 Sta.bget4 Sta.bgetE4 Sta.bget5 Sta.bgetE5 Sta.bget6 Sta.bgetE6 Sta.bget7 Sta.bgetE7 Sta.bget8 Sta.bgetE8 Sta.bget9 Sta.bgetE9 Sta.bget10 Sta.bgetE10 Sta.bget11 Sta.bgetE11 Sta.bget12 Sta.bgetE12 Sta.bget13 Sta.bgetE13 Pl.get0 Pl.getE0 Pl.get1 Pl.getE1 Pl.get2 Pl.getE2 Pl.get3 Pl.getE3 Pl.get4 Pl.getE4

theorem few13_fewFS {F : FS} {p o : List UInt8} (h : few13B F.n F.l p o = true) : fewFS F := by
  simp only [few13B, Bool.and_eq_true, decide_eq_true_eq] at h
  refine ⟨by omega, fun i hi => ?_⟩
  have h2 := h.1.1.2
  unfold few7B at h2
  have h3 := List.all_eq_true.1 h2 i (List.mem_range.2 hi)
  simp only [fewF, Bool.and_eq_true, decide_eq_true_eq] at h3
  omega
theorem few17_fewS {s : Sta} (h : few17 s = true) : fewS s := by
  simp only [few17, Bool.and_eq_true] at h
  exact ⟨few13_fewFS h.1.1, few13_fewFS h.1.2, few13_fewFS h.2⟩
theorem sameSB_re (s : Sta) (A1 : Option Addr) (c1 : Nat) (H1 : Nat → Option Addr × Nat) (A2 : Option Addr) (c2 : Nat) (H2 : Nat → Option Addr × Nat) (A3 : Option Addr) (c3 : Nat) (H3 : Nat → Option Addr × Nat) : sameSB (reS s A1 c1 H1 A2 c2 H2 A3 c3 H3) s = true := by
  unfold sameSB reS
  simp only [beq_self_eq_true, eqPl_refl, sameL_re, Bool.and_self]
theorem sameSB_er (s : Sta) (A1 : Option Addr) (c1 : Nat) (H1 : Nat → Option Addr × Nat) (A2 : Option Addr) (c2 : Nat) (H2 : Nat → Option Addr × Nat) (A3 : Option Addr) (c3 : Nat) (H3 : Nat → Option Addr × Nat) : sameSB s (reS s A1 c1 H1 A2 c2 H2 A3 c3 H3) = true := by
  unfold sameSB reS
  simp only [beq_self_eq_true, eqPl_refl, sameL_er, Bool.and_self]
theorem sameSB_refl (s : Sta) : sameSB s s = true := by
  unfold sameSB
  simp only [beq_self_eq_true, eqPl_refl, sameL_refl, Bool.and_self]
theorem CopyOf.same {w : World} {B : Nat} {s t : Sta} (h : CopyOf w B s t) : sameSB t s = true := by
  obtain ⟨A1, c1, H1, A2, c2, H2, A3, c3, H3, rfl, _⟩ := h
  exact sameSB_re s A1 c1 H1 A2 c2 H2 A3 c3 H3
theorem CopyOf.ok {w : World} {B : Nat} {s t : Sta} (h : CopyOf w B s t) (hb : s.p.n.length ≤ 9223372036854775807 ∧ s.p.o.length ≤ 9223372036854775807 ∧ s.bp.n.length ≤ 9223372036854775807 ∧ s.bp.o.length ≤ 9223372036854775807) : StaOk w t := by
  obtain ⟨A1, c1, H1, A2, c2, H2, A3, c3, H3, rfl, h1, h2, h3⟩ := h
  exact ⟨h1.ok, h2.ok, h3.ok, hb⟩
theorem DecOf.same {w : World} {B : Nat} {s t : Sta} (h : DecOf w B s t) : sameSB s t = true := by
  obtain ⟨A1, c1, H1, A2, c2, H2, A3, c3, H3, rfl, _⟩ := h
  exact sameSB_er s A1 c1 H1 A2 c2 H2 A3 c3 H3
theorem ssame_at {a b : Sta} {r : Bool} (e : sameSB a b = r) {w : World} (h1 : StaOk w a) (h2 : StaOk w b) : Calls Tryz.prog 8 #[.agg a.cells, .agg b.cells] w fun e w' => e = .returned (.bool r) ∧ Below w.heap.size w w' := by rw [← e]; exact ssame_any a b w h1 h2
theorem staW_len {s : Sta} (h : rightS s = true) : (staW s).length ≤ 200000 := by
  obtain ⟨hp1, hp2, hp3, hp4⟩ := rightS_parts h
  have a1 := planW_len (maybe_names hp1)
  have a2 := fieldsW_len hp2
  have a3 := catB_len [s.self, s.nn, s.clk, s.dec, s.frz]
  simp only [List.length_cons, List.length_nil] at a3
  unfold staW
  split
  · next h0 =>
    obtain ⟨l1, l2, l3⟩ := led_parts (hp3 h0)
    have b1 := planW_len (maybe_names l1)
    have b2 := fieldsW_len l2
    have b3 := fieldsW_len l3
    have b4 := catB_len [s.bst, s.bnum, s.bep, s.due, s.ack, s.told]
    simp only [List.length_cons, List.length_nil] at b4
    unfold barW
    simp only [List.length_append]
    omega
  · simp only [List.length_append, List.length_nil]
    omega
theorem staW_small (A : Option Addr) (c : Nat) (L : Nat → Fld) : staW ({ sta0 with self := 1, nn := 2, f := ⟨A, 0, c, L⟩ } : Sta) = [2, 4, 0, 0, 0, 0, 0, 0, 0, 0, 0] := by
  have n0 : numB 0 = [0] := by rw [numB, show zig 0 = 0 by decide, uB_less (by decide)]; rfl
  have n1 : numB 1 = [2] := by rw [numB, show zig 1 = 2 by decide, uB_less (by decide)]; rfl
  have n2 : numB 2 = [4] := by rw [numB, show zig 2 = 4 by decide, uB_less (by decide)]; rfl
  unfold staW planW fieldsW
  rw [if_neg (show ¬ (1 : Int) = 0 by decide)]
  simp only [catB, fldsW, sta0, pl0, List.length_nil, Int.natCast_zero, n0, n1, n2, List.append_nil, List.nil_append, List.cons_append]
theorem rightS_small (A : Option Addr) (c : Nat) (L : Nat → Fld) : rightS ({ sta0 with self := 1, nn := 2, f := ⟨A, 0, c, L⟩ } : Sta) = true := by
  have : fldsB 0 L = true := rfl
  unfold rightS
  rw [if_neg (show ¬ (1 : Int) = 0 by decide), show fldsB (Sta.f { sta0 with self := 1, nn := 2, f := ⟨A, 0, c, L⟩ }).n (Sta.f { sta0 with self := 1, nn := 2, f := ⟨A, 0, c, L⟩ }).l = true from this]
  rfl
set_option maxHeartbeats 4000000 in
theorem awake17 (w : World) : Calls Tryz.prog 5 #[] w fun e w' => e = .returned (.bool true) ∧ Below w.heap.size w w' := by
  go_enter Tryz.func5, Tryz.ntmps5
  go_wp2_with fail
  refine (snew_ok 1 2 fs0 w (FSOk.zero w) (by decide) (by decide) (by decide) (by decide) rfl).mono ?_
  rintro e w1 ⟨A, c, H, rfl, hown, hb⟩
  obtain ⟨s, hs⟩ : ∃ s : Sta, ({ sta0 with self := 1, nn := 2, f := ⟨A, 0, c, reF fs0.l H⟩ } : Sta) = s := ⟨_, rfl⟩
  have hr : rightS s = true := by rw [← hs]; exact rightS_small _ _ _
  have hW : staW s = [2, 4, 0, 0, 0, 0, 0, 0, 0, 0, 0] := by rw [← hs]; exact staW_small _ _ _
  have hok : StaOk w1 s := by rw [← hs]; exact ⟨hown.ok, FSOk.zero _, FSOk.zero _, Nat.zero_le _, Nat.zero_le _, Nat.zero_le _, Nat.zero_le _⟩
  have hj : s.j.n ≤ 1000000 ∧ s.m.n ≤ 1000000 := by rw [← hs]; exact ⟨Nat.zero_le _, Nat.zero_le _⟩
  have hbg : s.p.n.length ≤ 9223372036854775807 ∧ s.p.o.length ≤ 9223372036854775807 ∧ s.bp.n.length ≤ 9223372036854775807 ∧ s.bp.o.length ≤ 9223372036854775807 := by rw [← hs]; exact ⟨Nat.zero_le _, Nat.zero_le _, Nat.zero_le _, Nat.zero_le _⟩
  have h2 : s.nn = 2 := by rw [← hs]
  rw [show newSta 1 2 fs0 A c H = s from hs]
  have HR := Lib.hid hr
  have HW := Lib.hid hW
  have HOK := Lib.hid hok
  have HJ := Lib.hid hj
  have HG := Lib.hid hbg
  have H2 := Lib.hid h2
  have HB1 := Lib.hid hb
  clear hr hW hok hj hbg h2 hown hb hs
  go_wp2_with fail
  have r1 : rowAt (w1.alloc (.cells s.cells 30)) w1.heap.size = some (s.cells, 30) := rowAt_alloc_at _ _ _ _ rfl
  have hb1 : Below w.heap.size w (w1.alloc (.cells s.cells 30)) := below_allocS HB1.out _
  have hz : w1.heap.size = w1.heap.size := rfl
  refine (sencode_ok s _ HR.out (HOK.out.below ((Below.refl _ _).alloc (Nat.le_refl _) _)) HJ.out.1 HJ.out.2).mono ?_
  rintro e w2 ⟨A2, c2, rfl, hI, hN, hlow, hXc, hb⟩
  have r2 := rowKeep hb r1
  have HB2 := Lib.hid (bthen hb1 hb)
  have HOK2 := Lib.hid ((HOK.out.below ((Below.refl _ _).alloc (Nat.le_refl _) _)).below hb)
  have HN := Lib.hid hN
  rw [HW.out] at hI
  have hlen : (staW s).length = 11 := by rw [HW.out]; rfl
  rw [hlen]
  have HI := Lib.hid hI
  obtain ⟨q, hq⟩ : ∃ q, w1.heap.size = q := ⟨_, rfl⟩
  rw [hq] at r2 ⊢
  clear hI hN hlow hXc hb hb1 r1 hz hlen HB1 HOK hq
  go_wp2_with fail
  refine (sdecode_ok s A2 c2 [2, 4, 0, 0, 0, 0, 0, 0, 0, 0, 0] [] false w2 HR.out HJ.out HG.out HI.out HN.out (by decide) (by show _ = staW s ++ []; rw [HW.out]; rfl)).mono ?_
  rintro x w3 ⟨hb, -, -, hx⟩
  obtain ⟨t, rfl, ht⟩ := hx rfl rfl
  have r3 := rowKeep hb r2
  have HB3 := Lib.hid (bthen HB2.out hb)
  have HOK3 := Lib.hid (HOK2.out.below hb)
  have HT := Lib.hid ht
  have HTK := Lib.hid (ht.ok HG.out)
  have HI3 := Lib.hid (HI.out.below hb)
  have htn : t.nn = 2 := by obtain ⟨_, _, _, _, _, _, _, _, _, rfl, _⟩ := ht; exact H2.out
  clear hb hx ht r2 HB2 HOK2 HI HN
  obtain ⟨b2, o2, hA, hc0⟩ := HI3.out 0 (by decide)
  obtain ⟨b2', o2', hA', hc1⟩ := HI3.out 1 (by decide)
  subst hA
  injection hA' with hA'
  injection hA' with e1 e2
  subst e1 e2
  have hd0 : w3.cell? ⟨b2, o2, none⟩ = some (.int .u8 2) := hc0
  have hd1 : w3.cell? ⟨b2, o2 + 1, none⟩ = some (.int .u8 4) := hc1
  have hlt : b2 < w3.heap.size := World.block_lt_of_cell? _ _ hd0
  have hq := rowAt_lt r3
  clear hc0 hc1 HI3
  go_wp2_with fail
  refine (ssame_at HT.out.same (HOK3.out.below ((Below.refl _ _).alloc (Nat.le_refl _) _)) (HTK.out.below ((Below.refl _ _).alloc (Nat.le_refl _) _))).mono ?_
  rintro e w4 ⟨rfl, hb⟩
  have r4 : rowAt w4 w3.heap.size = some (t.cells, 30) := rowKeep hb (rowAt_alloc_at _ _ _ _ rfl)
  have HB4 := Lib.hid (bthen (below_allocS HB3.out _) hb)
  have hz := fun i => cell_of_rowAt r4 i
  clear hb
  go_wp2_with fail
  go_ret
  exact ⟨rfl, HB4.out⟩
end Go.Proofs.YtinhaipnmmgplaaGreat
