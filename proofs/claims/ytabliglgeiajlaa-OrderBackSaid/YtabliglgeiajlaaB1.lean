/- The least edges make the lattice again, without Go. -/
import Derived.Test.YtabliglgeiajlaaX3
import Derived.Test.YtabliglgeiajlaaF1
import Derived.Test.YtabliglgeiajlaaE1
set_option linter.unusedSimpArgs false
set_option linter.unusedVariables false
namespace Go.Proofs.Ytabliglgeiajlaa.AM
open Go Go.RowKit Go.Proofs

theorem countP_lt {α : Type} {p q : α → Bool} : ∀ {l : List α}, (∀ x ∈ l, p x = true → q x = true) → (∃ x ∈ l, q x = true ∧ p x = false) → l.countP p < l.countP q
  | [], _, ⟨_, h, _⟩ => by cases h
  | a :: l, h, ⟨x, hx, h1, h2⟩ => by
    have hm : l.countP p ≤ l.countP q := List.countP_mono_left fun y hy => h y (List.mem_cons_of_mem _ hy)
    rw [List.countP_cons, List.countP_cons]
    rcases List.mem_cons.1 hx with rfl | hx
    · simp [h1, h2]; omega
    · have ih := countP_lt (l := l) (fun y hy => h y (List.mem_cons_of_mem _ hy)) ⟨x, hx, h1, h2⟩
      have := h a (List.mem_cons_self ..)
      cases hp : p a with
      | false => simp [hp]; split <;> omega
      | true => simp [hp, this hp]; omega
theorem rowE_mem {us : List Nat} {a : Nat} {e : Int × Int} : ∀ {m : Nat}, e ∈ rowE us a m ↔ ∃ b, b < m ∧ cov us a b = true ∧ e = ((a : Int), (b : Int))
  | 0 => by simp [rowE]
  | m + 1 => by
    rw [rowE, List.mem_append, rowE_mem]
    constructor
    · rintro (⟨b, h1, h2, h3⟩ | h)
      · exact ⟨b, by omega, h2, h3⟩
      · split at h
        · rename_i hc
          simp at h
          exact ⟨m, by omega, hc, h⟩
        · simp at h
    · rintro ⟨b, h1, h2, rfl⟩
      by_cases e : b = m
      · subst e; right; rw [if_pos h2]; simp
      · exact .inl ⟨b, by omega, h2, rfl⟩
theorem edgE_mem {us : List Nat} {e : Int × Int} : ∀ {m : Nat}, e ∈ edgE us m ↔ ∃ a b, a < m ∧ b < us.length ∧ cov us a b = true ∧ e = ((a : Int), (b : Int))
  | 0 => by simp [edgE]
  | m + 1 => by
    rw [edgE, List.mem_append, edgE_mem, rowE_mem]
    constructor
    · rintro (⟨a, b, h1, h2, h3, h4⟩ | ⟨b, h1, h2, h3⟩)
      · exact ⟨a, b, by omega, h2, h3, h4⟩
      · exact ⟨m, b, by omega, h1, h2, h3⟩
    · rintro ⟨a, b, h1, h2, h3, rfl⟩
      by_cases e : a = m
      · subst e; exact .inr ⟨b, h2, h3, rfl⟩
      · exact .inl ⟨a, b, by omega, h2, h3, rfl⟩
theorem rowE_nodup (us : List Nat) (a : Nat) : ∀ m, (rowE us a m).Nodup
  | 0 => by simp [rowE]
  | m + 1 => by
    rw [rowE, List.nodup_append]
    refine ⟨rowE_nodup us a m, by split <;> simp, fun x hx y hy h => ?_⟩
    subst h
    obtain ⟨b, h1, _, h3⟩ := rowE_mem.1 hx
    split at hy
    · simp at hy
      rw [h3] at hy
      have := congrArg Prod.snd hy
      simp at this
      omega
    · simp at hy
theorem edgE_nodup (us : List Nat) : ∀ m, (edgE us m).Nodup
  | 0 => by simp [edgE]
  | m + 1 => by
    rw [edgE, List.nodup_append]
    refine ⟨edgE_nodup us m, rowE_nodup us m _, fun x hx y hy h => ?_⟩
    subst h
    obtain ⟨a, b, h1, _, _, h3⟩ := edgE_mem.1 hx
    obtain ⟨c, _, _, h4⟩ := rowE_mem.1 hy
    rw [h3] at h4
    have := congrArg Prod.fst h4
    simp at this
    omega
section
variable {us : List Nat} (hu : U32 us) (h8 : us.length ≤ 8) (hlw : Low us) (ho : Ord us)
theorem natE_mem {l : List (Int × Int)} (hl : ∀ e ∈ l, e ∈ edgE us us.length) {a b : Nat} : (a, b) ∈ natE l ↔ ((a : Int), (b : Int)) ∈ l := by
  constructor
  · intro h
    obtain ⟨e, he, h2⟩ := List.mem_map.1 h
    obtain ⟨c, d, _, _, _, rfl⟩ := edgE_mem.1 (hl e he)
    simp at h2
    obtain ⟨rfl, rfl⟩ := h2
    exact he
  · intro h
    exact List.mem_map.2 ⟨_, h, by simp⟩
theorem natE_cov {l : List (Int × Int)} (hl : ∀ e ∈ l, e ∈ edgE us us.length) {a b : Nat} (h : (a, b) ∈ natE l) : a < us.length ∧ b < us.length ∧ cov us a b = true := by
  obtain ⟨c, d, h1, h2, h3, h4⟩ := edgE_mem.1 (hl _ ((natE_mem hl).1 h))
  have e1 : a = c := by have e1 := congrArg Prod.fst h4; simp at e1; omega
  have e2 : b = d := by have e2 := congrArg Prod.snd h4; simp at e2; omega
  subst e1; subst e2
  exact ⟨h1, h2, h3⟩
include hu h8
theorem cov_iff {a b : Nat} (ha : a < us.length) (hb : b < us.length) : cov us a b = true ↔ ((¬ a = b ∧ fl us a b = true) ∧ ∀ c, c < us.length → ¬ (¬ c = a ∧ ¬ c = b ∧ fl us a c = true ∧ fl us c b = true)) := by
  rw [cov_isN hu h8 ha hb, isN_iff]
include ho
theorem reach_fl {l : List (Int × Int)} (hl : ∀ e ∈ l, e ∈ edgE us us.length) {a b : Nat} (ha : a < us.length) (h : Reach (natE l) a b) : b < us.length ∧ fl us a b = true := by
  induction h with
  | refl => exact ⟨ha, ho.1 a ha⟩
  | step _ he ih =>
    obtain ⟨h1, h2, h3⟩ := natE_cov hl he
    have h4 := ((cov_iff hu h8 h1 h2).1 h3).1.2
    exact ⟨h2, ho.2.2 _ ha _ h1 _ h2 ih.2 h4⟩
theorem fl_reach {a b : Nat} (ha : a < us.length) (hb : b < us.length) (h : fl us a b = true) : Reach (natE (edgE us us.length)) a b := by
  obtain ⟨m, hm⟩ : ∃ m, (List.range us.length).countP (fun c => fl us a c && fl us c b) = m := ⟨_, rfl⟩
  induction m using Nat.strongRecOn generalizing a b with
  | _ m ih =>
    by_cases hab : a = b
    · subst hab; exact .refl
    · by_cases hc : cov us a b = true
      · exact .step .refl (List.mem_map.2 ⟨_, edgE_mem.2 ⟨a, b, ha, hb, hc, rfl⟩, by simp⟩)
      · rw [cov_iff hu h8 ha hb] at hc
        have : ∃ c, c < us.length ∧ ¬ c = a ∧ ¬ c = b ∧ fl us a c = true ∧ fl us c b = true := by
          apply Classical.byContradiction
          intro hn
          exact hc ⟨⟨hab, h⟩, fun c hcl hq => hn ⟨c, hcl, hq⟩⟩
        obtain ⟨c, hcl, h1, h2, h3, h4⟩ := this
        have r1 : Reach (natE (edgE us us.length)) a c := by
          refine ih _ ?_ ha hcl h3 rfl
          rw [← hm]
          refine countP_lt (fun x hx hp => ?_) ⟨b, by simpa using hb, ?_, ?_⟩
          · simp only [Bool.and_eq_true] at hp ⊢
            exact ⟨hp.1, ho.2.2 x (by simpa using hx) c hcl b hb hp.2 h4⟩
          · simp [h, ho.1 b hb]
          · have := ho.2.1 b hb c hcl (fun e => h2 e.symm)
            cases hq : fl us b c with
            | false => simp
            | true => exact absurd ⟨hq, h4⟩ this
        have r2 : Reach (natE (edgE us us.length)) c b := by
          refine ih _ ?_ hcl hb h4 rfl
          rw [← hm]
          refine countP_lt (fun x hx hp => ?_) ⟨a, by simpa using ha, ?_, ?_⟩
          · simp only [Bool.and_eq_true] at hp ⊢
            exact ⟨ho.2.2 a ha c hcl x (by simpa using hx) h3 hp.1, hp.2⟩
          · simp [h, ho.1 a ha]
          · have := ho.2.1 c hcl a ha h1
            cases hq : fl us c a with
            | false => simp
            | true => exact absurd ⟨hq, h3⟩ this
        exact r1.trans r2
theorem clo_less {k : Nat} (hk : k < (edgE us us.length).length) : closU us.length (natE ((edgE us us.length).take k ++ (edgE us us.length).drop (k + 1))) ≠ us := by
  obtain ⟨a, b, h1, h2, h3, h4⟩ := edgE_mem.1 (List.getElem_mem hk)
  have hnd := edgE_nodup us us.length
  have hsp : edgE us us.length = (edgE us us.length).take k ++ (edgE us us.length)[k] :: (edgE us us.length).drop (k + 1) := by
    rw [← List.drop_eq_getElem_cons hk, List.take_append_drop]
  have hnot : ((a : Int), (b : Int)) ∉ (edgE us us.length).take k ++ (edgE us us.length).drop (k + 1) := by
    rw [hsp, List.nodup_append] at hnd
    obtain ⟨_, n2, n3⟩ := hnd
    rw [List.nodup_cons] at n2
    rw [← h4, List.mem_append]
    rintro (h | h)
    · exact n3 _ h _ (List.mem_cons_self ..) rfl
    · exact n2.1 h
  have hsub : ∀ e ∈ (edgE us us.length).take k ++ (edgE us us.length).drop (k + 1), e ∈ edgE us us.length := by
    intro e he
    rcases List.mem_append.1 he with h | h
    · exact List.mem_of_mem_take h
    · exact List.mem_of_mem_drop h
  obtain ⟨⟨c1, c2⟩, c3⟩ := (cov_iff hu h8 h1 h2).1 h3
  intro hEq
  have hf : fl (closU us.length (natE ((edgE us us.length).take k ++ (edgE us us.length).drop (k + 1)))) a b = true := by rw [hEq]; exact c2
  rw [closU, upsN_fl _ _ _ h1] at hf
  simp only [Bool.and_eq_true] at hf
  have hr := reachB_iff.1 hf.2
  have hfront : a = b ∨ ∃ c, (a, c) ∈ natE ((edgE us us.length).take k ++ (edgE us us.length).drop (k + 1)) ∧ Reach (natE ((edgE us us.length).take k ++ (edgE us us.length).drop (k + 1))) c b := by
    clear hf c2 c3 c1 h4 h3 h2 hnot
    induction hr with
    | refl => exact .inl rfl
    | step hr he ih =>
      rcases ih with rfl | ⟨c, h1, h2⟩
      · exact .inr ⟨_, he, .refl⟩
      · exact .inr ⟨c, h1, .step h2 he⟩
  rcases hfront with e | ⟨c, hc1, hc2⟩
  · exact c1 e
  · obtain ⟨_, q2, q3⟩ := natE_cov hsub hc1
    have q4 := ((cov_iff hu h8 h1 q2).1 q3).1
    obtain ⟨_, q6⟩ := reach_fl hu h8 ho hsub q2 hc2
    refine c3 c q2 ⟨fun e => q4.1 e.symm, fun e => ?_, q4.2, q6⟩
    subst e
    exact hnot ((natE_mem hsub).1 hc1)
include hlw
theorem clo_edges : closU us.length (natE (edgE us us.length)) = us := by
  refine (ups_eq rfl (fun a ha => hlw a ha) fun a ha b hb => ?_).symm
  rw [Bool.eq_iff_iff, reachB_iff]
  exact ⟨fl_reach hu h8 ho ha hb, fun h => (reach_fl hu h8 ho (fun e he => he) ha h).2⟩
theorem edges_one (hL : Lat us) (h1 : 1 ≤ us.length) (he : edgE us us.length = []) : us.length = 1 := by
  rcases Nat.lt_or_ge us.length 2 with h | h
  · omega
  · exfalso
    have hj := (hL 0 (by omega) 1 (by omega)).1
    unfold joinI idxF at hj
    split at hj
    · rename_i c hc
      rw [List.findIdx?_eq_some_iff_getElem] at hc
      obtain ⟨hcl, hc2, _⟩ := hc
      have h3 : us.getD c 0 = us.getD 0 0 &&& us.getD 1 0 := by rw [← get_getD hcl]; simpa using hc2
      obtain ⟨⟨q1, q2⟩, _⟩ := (isJ_iff hlw ho (by omega) (by omega) hcl).2 h3
      have hr : ∀ a, a < us.length → fl us a c = true → a = c := by
        intro a ha hq
        have := fl_reach hu h8 ho ha hcl hq
        rw [he] at this
        cases this with
        | refl => rfl
        | step _ he => cases he
      have := hr 0 (by omega) q1
      have := hr 1 (by omega) q2
      omega
    · omega
end
theorem ofF_edges {ns : List ByteArray} {us : List Nat} (hu : U32 us) (hc : checkF ns us = 0) : (1 ≤ us.length ∧ us.length ≤ 8 ∧ ns.length = us.length) ∧ Low us ∧ Ord us ∧ Lat us ∧ (edgE us us.length).length ≤ 64 ∧ ofF ns (edgE us us.length) = (ns, us, 0) ∧
    ∀ k, k < (edgE us us.length).length → ∃ vs e, ofF ns ((edgE us us.length).take k ++ (edgE us us.length).drop (k + 1)) = vs ∧ e = vs.2.2 ∧ (e = 0 → vs.1 = ns ∧ vs.2.1 ≠ us) := by
  unfold checkF at hc
  split at hc
  · rename_i hm
    split at hc
    · rename_i ho
      split at hc
      · rename_i hl
        have hlen := (mayB_get hm).1
        have hlw := low_of_may hm
        have h8 := hlen.2.1
        have hE : (edgE us us.length).length ≤ 64 := by
          have h1 := edgE_le us us.length
          have h2 : us.length * us.length ≤ 8 * 8 := Nat.mul_le_mul h8 h8
          omega
        have hodd : ∀ l : List (Int × Int), (∀ e ∈ l, e ∈ edgE us us.length) → l.any (oddB ns.length) = false := by
          intro l hl
          rw [List.any_eq_false]
          intro e he
          obtain ⟨a, b, h1, h2, _, rfl⟩ := edgE_mem.1 (hl e he)
          rw [hlen.2.2]
          simp [oddB]
          omega
        have hchk : checkF ns us = 0 := by rw [checkF, if_pos hm, if_pos ho, if_pos hl]
        refine ⟨hlen, hlw, ho, hl, hE, ?_, fun k hk => ⟨_, _, rfl, rfl, fun h0 => ?_⟩⟩
        · rw [ofF, if_neg (by rw [hlen.2.2]; simp; omega), if_neg (by omega), if_neg (by rw [hodd _ (fun e he => he)]; simp), hlen.2.2, clo_edges hu h8 hlw ho, if_pos hchk]
        · have hsub : ∀ e ∈ (edgE us us.length).take k ++ (edgE us us.length).drop (k + 1), e ∈ edgE us us.length := by
            intro e he
            rcases List.mem_append.1 he with h | h
            · exact List.mem_of_mem_take h
            · exact List.mem_of_mem_drop h
          have hless := clo_less hu h8 ho hk
          have hlen2 : ((edgE us us.length).take k ++ (edgE us us.length).drop (k + 1)).length ≤ 64 := by simp; omega
          obtain ⟨l', hl'⟩ : ∃ l', (edgE us us.length).take k ++ (edgE us us.length).drop (k + 1) = l' := ⟨_, rfl⟩
          rw [hl'] at hsub hless hlen2 h0 ⊢
          have hof : ofF ns l' = if checkF ns (closU us.length (natE l')) = 0 then (ns, closU us.length (natE l'), 0) else ([], [], checkF ns (closU us.length (natE l'))) := by
            rw [ofF, if_neg (by rw [hlen.2.2]; simp; omega), if_neg (by omega), if_neg (by rw [hodd _ hsub]; simp), hlen.2.2]
          rw [hof] at h0 ⊢
          by_cases hq : checkF ns (closU us.length (natE l')) = 0
          · rw [if_pos hq]; exact ⟨rfl, hless⟩
          · rw [if_neg hq] at h0; exact absurd h0 hq
      · cases hc
    · cases hc
  · cases hc
/-- What is made is a lattice. -/
theorem make_chain : ∀ n : Nat, n ≤ 8 → 1 ≤ n → checkF (namesN (kChain.m n)) (upsN (kChain.p n) (kChain.m n) (kChain.m n)) = 0 := by decide +kernel
theorem make_power : ∀ n : Nat, n ≤ 3 → checkF (namesN (kPower.m n)) (upsN (kPower.p n) (kPower.m n) (kPower.m n)) = 0 := by decide +kernel
theorem make_diamond : ∀ n : Nat, n ≤ 6 → 1 ≤ n → checkF (namesN (kDiamond.m n)) (upsN (kDiamond.p n) (kDiamond.m n) (kDiamond.m n)) = 0 := by decide +kernel
theorem makeF_check (s : ByteArray) (n : Int) (h : (makeF s n).2.2 = 0) : checkF (makeF s n).1 (makeF s n).2.1 = 0 := by
  unfold makeF at h ⊢
  split
  · rename_i hk; rw [hk] at h; cases h
  · rename_i k hk
    rw [hk] at h
    simp only at h ⊢
    split
    · rename_i hr; rw [if_pos hr] at h; cases h
    · rename_i hr
      simp only
      unfold kindOf at hk
      split at hk
      · cases hk
        simp only [kChain] at hr
        exact make_chain n.toNat (by omega) (by omega)
      · split at hk
        · cases hk
          simp only [kPower] at hr
          exact make_power n.toNat (by omega)
        · split at hk
          · cases hk
            simp only [kDiamond] at hr
            exact make_diamond n.toNat (by omega) (by omega)
          · cases hk
theorem namesN_szs : ∀ m, Szs (namesN m)
  | 0 => by intro s hs; cases hs
  | m + 1 => by
    intro s hs
    rw [namesN, List.mem_append] at hs
    rcases hs with hs | hs
    · exact namesN_szs m s hs
    · simp at hs; subst hs; show 1 ≤ _; omega
theorem makeF_ok (s : ByteArray) (n : Int) : Szs (makeF s n).1 ∧ U32 (makeF s n).2.1 := by
  have hle := makeF_le s n
  unfold makeF at hle ⊢
  split
  · exact ⟨fun s hs => (by cases hs), fun u hu => (by cases hu)⟩
  · rename_i k hk
    rw [hk] at hle
    simp only at hle
    split
    · exact ⟨fun s hs => (by cases hs), fun u hu => (by cases hu)⟩
    · rename_i hr
      rw [if_neg hr] at hle
      simp only [namesN_length] at hle
      exact ⟨namesN_szs _, upsN_u32 _ hle.1 _⟩
end Go.Proofs.Ytabliglgeiajlaa.AM
