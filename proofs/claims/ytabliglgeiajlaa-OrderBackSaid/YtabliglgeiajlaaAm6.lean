/- The abstract machine: rules for code. -/
import Derived.Test.YtabliglgeiajlaaAm5
set_option linter.unusedSimpArgs false
set_option linter.unusedVariables false
namespace Go.Proofs.Ytabliglgeiajlaa.AM
open Go Go.RowKit

def AWP (P : Program) (ro : Option Nat) (c : Code) (st : St) (K : Exit → St → Prop) : Prop :=
  ∀ B a w, Rel B st a w → ∀ Q : Exit → Act → World → Prop, (∀ e st' a' w', K e st' → Rel B st' a' w' → Q e a' w') → c.wpIn (FW ro) 0 P Q a w

section
variable {P : Program} {ro : Option Nat} {st : St} {K K' : Exit → St → Prop}

theorem AWP.mono {c : Code} (h : AWP P ro c st K) (hk : ∀ e s, K e s → K' e s) : AWP P ro c st K' :=
  fun B a w hr Q hQ => h B a w hr Q (fun e st' a' w' hK => hQ e st' a' w' (hk e st' hK))
theorem AWP_skip (h : K .normal st) : AWP P ro .skip st K := fun _ a w hr _ hQ => wpIn_skip (hQ _ _ a w h hr)
theorem AWP_ret (h : K .ret st) : AWP P ro .ret st K := fun _ a w hr _ hQ => wpIn_ret (hQ _ _ a w h hr)
theorem AWP_exit {id : Nat} (h : K (.exit id) st) : AWP P ro (.exit id) st K := fun _ a w hr _ hQ => wpIn_exit (hQ _ _ a w h hr)
theorem AWP_goto {l : Nat} (h : K (.goto l) st) : AWP P ro (.goto l) st K := fun _ a w hr _ hQ => wpIn_goto (hQ _ _ a w h hr)
theorem AWP_label {l : Nat} (h : K .normal st) : AWP P ro (.label l) st K := fun _ a w hr _ hQ => wpIn_label (hQ _ _ a w h hr)

/-- What follows behind a normal end. -/
def thenK (J : St → Prop) (K : Exit → St → Prop) : Exit → St → Prop
  | .normal, s => J s
  | e, s => K e s
theorem thenK_normal {J : St → Prop} {s : St} : thenK J K .normal s = J s := rfl
theorem AWP_seq' {x y : Code} (h : AWP P ro x st (thenK (fun s => AWP P ro y s K) K)) : AWP P ro (.seq x y) st K := fun B a w hr Q hQ => by
  refine wpIn_seq (h B a w hr _ (fun e st' a' w' hK hr' => ?_))
  cases e with
  | normal => exact hK B a' w' hr' Q hQ
  | exit id => exact hQ _ _ _ _ hK hr'
  | goto l => exact hQ _ _ _ _ hK hr'
  | ret => exact hQ _ _ _ _ hK hr'
  | panic c => exact hQ _ _ _ _ hK hr'
  | outgrown => exact hQ _ _ _ _ hK hr'
/-- The rest behind a letter, so that nothing looks into it. -/
theorem AWP_seq {x y : Code} (h : ∀ J : St → Prop, (∀ s, AWP P ro y s K → J s) → AWP P ro x st (thenK J K)) : AWP P ro (.seq x y) st K :=
  AWP_seq' (h _ fun _ hs => hs)

theorem AWP_cond {c : Operand} {x y : Code} {t : Bool} (hc : st.eval c = .v (.bool t)) (ht : t = true → AWP P ro x st K) (hf : t = false → AWP P ro y st K) : AWP P ro (.cond c x y) st K := fun B a w hr Q hQ => by
  obtain ⟨ρ, _, hfr, _⟩ := id hr
  have hv := hfr.eval c
  rw [hc] at hv
  have e := hv.v_inv
  refine wpIn_cond_split e (fun h => ht h B a w hr Q hQ) (fun h => hf h B a w hr Q hQ)

def blockK (id : Nat) (K : Exit → St → Prop) : Exit → St → Prop
  | .exit id', s => if id' = id then K .normal s else K (.exit id') s
  | e, s => K e s
theorem AWP_block {id : Nat} {c : Code} (h : AWP P ro c st (blockK id K)) : AWP P ro (.block id c) st K := fun B a w hr Q hQ => by
  refine wpIn_block (h B a w hr _ (fun e st' a' w' hK hr' => ?_))
  cases e with
  | exit id' =>
    simp only [blockK] at hK
    simp only [Exit.inBlock]
    split
    · rename_i he; rw [if_pos he] at hK; exact hQ _ _ _ _ hK hr'
    · rename_i he; rw [if_neg he] at hK; exact hQ _ _ _ _ hK hr'
  | normal => exact hQ _ _ _ _ hK hr'
  | goto l => exact hQ _ _ _ _ hK hr'
  | ret => exact hQ _ _ _ _ hK hr'
  | panic c => exact hQ _ _ _ _ hK hr'
  | outgrown => exact hQ _ _ _ _ hK hr'

/-- A loop: what holds at its head, by a ghost, and a number that falls. -/
theorem AWP_loop {γ : Type} {c : Code} (I : γ → St → Prop) (m : γ → Nat) (g0 : γ) (h0 : I g0 st)
    (round : ∀ g s, I g s → AWP P ro c s (thenK (fun s' => ∃ g', m g' < m g ∧ I g' s') K)) : AWP P ro (.loop c) st K := fun B a w hr Q hQ => by
  intro b k cs hro hb hrm
  have key : ∀ j g s a w, m g = j → I g s → Rel B s a w →
      ∃ e a' w', Q e a' w' ∧ ArrivesIn (Machine.fenced P (FW ro)) P (lone (b.atR a (.code c :: .inLoop c :: k)) cs w) b k cs e a' w' := by
    intro j
    induction j using Nat.strongRecOn with
    | _ j ih =>
      intro g s a w hj hI hrel
      have hw := round g s hI B a w hrel (fun e a' w' => (e = .normal ∧ ∃ g' s', m g' < m g ∧ I g' s' ∧ Rel B s' a' w') ∨ (e ≠ .normal ∧ Q e a' w')) (fun e st' a' w' hK hr' => by
        cases e with
        | normal => obtain ⟨g', hg, hI'⟩ := hK; exact .inl ⟨rfl, g', st', hg, hI', hr'⟩
        | exit id => exact .inr ⟨by simp, hQ _ _ _ _ hK hr'⟩
        | goto l => exact .inr ⟨by simp, hQ _ _ _ _ hK hr'⟩
        | ret => exact .inr ⟨by simp, hQ _ _ _ _ hK hr'⟩
        | panic c => exact .inr ⟨by simp, hQ _ _ _ _ hK hr'⟩
        | outgrown => exact .inr ⟨by simp, hQ _ _ _ _ hK hr'⟩)
      obtain ⟨e, a₁, w₁, hq, harr⟩ := hw b (.inLoop c :: k) cs hro hb hrm
      rcases hq with ⟨rfl, g', s', hg, hI', hr'⟩ | ⟨hne, hq⟩
      · obtain ⟨e₂, a₂, w₂, hq₂, harr₂⟩ := ih (m g') (hj ▸ hg) g' s' a₁ w₁ rfl hI' hr'
        exact ⟨e₂, a₂, w₂, hq₂, .of_steps (StepsIn.trans harr (.one (fenced_calm hb hrm rfl) stepR_inLoop)) harr₂⟩
      · exact ⟨e, a₁, w₁, hq, .pass (x := .inLoop c) rfl (fun _ _ => .inl hne) harr⟩
  obtain ⟨e, a', w', hq, harr⟩ := key _ g0 st a w rfl h0 hr
  exact ⟨e, a', w', hq, .of_steps (.one (fenced_calm hb hrm rfl) stepR_loop) harr⟩
end

/-! ### Room for what an operation lays -/
theorem used_append {σ : List Slot} {n k g : Nat} : used (σ ++ List.replicate n .free) k g ↔ used σ k g := by
  constructor
  · rintro ⟨s, hs, hne⟩
    by_cases hk : k < σ.length
    · rw [List.getElem?_append_left hk] at hs; exact ⟨s, hs, hne⟩
    · rw [List.getElem?_append_right (by omega), List.getElem?_replicate] at hs
      split at hs
      · cases hs; exact hne.elim
      · cases hs
  · rintro ⟨s, hs, hne⟩
    have hk : k < σ.length := (List.getElem?_eq_some_iff.1 hs).1
    exact ⟨s, by rw [List.getElem?_append_left hk]; exact hs, hne⟩
theorem ent_append {σ : List Slot} {n k : Nat} {e : Ent} : (σ ++ List.replicate n .free)[k]? = some (.ent e) ↔ σ[k]? = some (.ent e) := by
  constructor
  · intro hs
    by_cases hk : k < σ.length
    · rwa [List.getElem?_append_left hk] at hs
    · rw [List.getElem?_append_right (by omega), List.getElem?_replicate] at hs
      split at hs <;> cases hs
  · intro hs
    have hk : k < σ.length := (List.getElem?_eq_some_iff.1 hs).1
    rwa [List.getElem?_append_left hk]
theorem live_append {σ : List Slot} {n k : Nat} : live (σ ++ List.replicate n .free) k ↔ live σ k :=
  ⟨fun ⟨e, he⟩ => ⟨e, ent_append.1 he⟩, fun ⟨e, he⟩ => ⟨e, ent_append.2 he⟩⟩
theorem Tb_append {σ : List Slot} {n : Nat} {ρ : Nat → Nat × Nat} {k g : Nat} {p : Nat × Nat} (h : Tb (σ ++ List.replicate n .free) ρ k g = some p) : Tb σ ρ k g = some p := by
  obtain ⟨e, he, hg, hp⟩ := Tb.live h
  have := Tb.of (ρ := ρ) (ent_append.1 he)
  rw [hg, hp] at this
  exact this
theorem Move.room (B : Base) (σ : List Slot) (ρ : Nat → Nat × Nat) (w : World) (n : Nat) : Move B σ ρ w (σ ++ List.replicate n .free) ρ w where
  size := Nat.le_refl _
  keep := fun _ _ _ => rfl
  lives := fun k hk => .inl ⟨k, live_append.1 hk, rfl⟩
  uses := fun k g hk => used_append.2 hk
  tabs := fun _ _ _ _ h => Tb_append h
theorem Rel.room {B : Base} {st : St} {a : Act} {w : World} (h : Rel B st a w) (n : Nat) : Rel B ⟨st.fr, st.σ ++ List.replicate n .free⟩ a w := by
  obtain ⟨ρ, h1, h2, h3⟩ := h
  have m := Move.room B st.σ ρ w n
  exact ⟨ρ, m.hp h1 rfl rfl rfl (fun k e he => m.entOk (h1.ent k e (ent_append.1 he)) rfl) (fun k k' hk hk' he => h1.inj k k' (live_append.1 hk) (live_append.1 hk') he), m.frOk (fr := st.fr) h2, h3⟩

/-! ### Regions -/
inductive SR where
  | no
  | call
  | yes (c : Prop) (rd : List Nat) (out : Out)

def callAlloc : Callee → Bool
  | .builtin b => match b with
    | .append => true
    | _ => false
  | _ => true
def allocB (o : Oper) : Bool :=
  match o.op with
  | .alloc _ => true
  | .box _ _ => true
  | .buildSlice _ _ _ => true
  | .makeSlice _ _ _ => true
  | .makeMap _ _ => true
  | .call k => callAlloc k.callee
  | _ => false
def farS : Nat := 1000000
def slots : List Oper → Nat → List Nat
  | [], _ => []
  | o :: os, nx => if allocB o then nx :: slots os (nx + 1) else farS :: slots os nx
def nalloc : List Oper → Nat
  | [] => 0
  | o :: os => if allocB o then nalloc os + 1 else nalloc os

/-- A call: its outcome is brought by whoever proves. -/
def CallV (P : Program) (ro : Option Nat) (o : Oper) (opd : Operand → D) (σ : List Slot) (slot : Nat) (k : List Nat → Out → Prop) : Prop :=
  ∃ rd out, OpS P ro o opd σ rd slot out ∧ (∀ p ∈ out.sets, p.1 = slot ∨ p.1 ∈ rd) ∧ k rd out

section
variable (step : Oper → (Operand → D) → List Slot → Nat → SR)
/-- The steps of a region, up to a call: that stands behind a letter. -/
def rvc (opsA : Array Oper) (KC : Oper → List Oper → Nat → St → List Rec → Prop) (K : List Rec → St → Prop) : List Oper → Nat → St → List Rec → Prop
  | [], _, st, recs => K recs st
  | o :: os, nx, st, recs =>
    match guardB opsA o st with
    | none => False
    | some g =>
      if g = true then
        match step o st.eval st.σ (if allocB o then nx else farS) with
        | .no => False
        | .call => KC o os nx st recs
        | .yes c rd out => c ∧ rvc opsA KC K os (if allocB o then nx + 1 else nx) (out.app o.dst st) (recs ++ [⟨true, rd, out⟩])
      else rvc opsA KC K os (if allocB o then nx + 1 else nx) (Out.app ⟨.v undef, []⟩ o.dst st) (recs ++ [⟨false, [], ⟨.v undef, []⟩⟩])
def rvcX (P : Program) (ro : Option Nat) (opsA : Array Oper) (K : List Rec → St → Prop) : List Oper → Nat → St → List Rec → Prop
  | [], _, st, recs => K recs st
  | o :: os, nx, st, recs =>
    match guardB opsA o st with
    | none => False
    | some g =>
      if g = true then
        match step o st.eval st.σ (if allocB o then nx else farS) with
        | .no => False
        | .call => CallV P ro o st.eval st.σ (if allocB o then nx else farS) (fun rd out => rvcX P ro opsA K os (if allocB o then nx + 1 else nx) (out.app o.dst st) (recs ++ [⟨true, rd, out⟩]))
        | .yes c rd out => c ∧ rvcX P ro opsA K os (if allocB o then nx + 1 else nx) (out.app o.dst st) (recs ++ [⟨true, rd, out⟩])
      else rvcX P ro opsA K os (if allocB o then nx + 1 else nx) (Out.app ⟨.v undef, []⟩ o.dst st) (recs ++ [⟨false, [], ⟨.v undef, []⟩⟩])
def KCof (P : Program) (ro : Option Nat) (opsA : Array Oper) (K : List Rec → St → Prop) (o : Oper) (os : List Oper) (nx : Nat) (st : St) (recs : List Rec) : Prop :=
  CallV P ro o st.eval st.σ (if allocB o then nx else farS) (fun rd out => rvcX step P ro opsA K os (if allocB o then nx + 1 else nx) (out.app o.dst st) (recs ++ [⟨true, rd, out⟩]))
theorem rvc_eq (P : Program) (ro : Option Nat) (opsA : Array Oper) (K : List Rec → St → Prop) (os : List Oper) : ∀ nx st recs, rvc step opsA (KCof step P ro opsA K) K os nx st recs = rvcX step P ro opsA K os nx st recs := by
  induction os with
  | nil => intro nx st recs; rfl
  | cons o os ih =>
    intro nx st recs
    simp only [rvc, rvcX, ih]
    cases guardB opsA o st with
    | none => rfl
    | some g =>
      simp only
      split
      · cases step o st.eval st.σ (if allocB o then nx else farS) <;> rfl
      · rfl

/-- What a step function must keep. -/
def Sound (P : Program) (ro : Option Nat) : Prop := ∀ o opd σ slot c rd out, step o opd σ slot = .yes c rd out → c → OpS P ro o opd σ rd slot out ∧ ∀ p ∈ out.sets, p.1 = slot ∨ p.1 ∈ rd

variable {step}
theorem rvcX_valid {P : Program} {ro : Option Nat} {opsA : Array Oper} {K : List Rec → St → Prop} (hs : Sound step P ro) {sl : Nat → Nat} (os : List Oper) : ∀ (i nx : Nat) (st : St) (recs : List Rec),
    (∀ j, j < os.length → sl (i + j) = (slots os nx).getD j 0) → rvcX step P ro opsA K os nx st recs → ∃ rs, Valid P ro opsA sl os i st rs ∧ K (recs ++ rs) (fin (fun _ => true) os rs i st) := by
  induction os with
  | nil => intro i nx st recs _ h; exact ⟨[], rfl, by simpa [fin, rvcX] using h⟩
  | cons o os ih =>
    intro i nx st recs hsl h
    have h0 : sl i = if allocB o then nx else farS := by
      have := hsl 0 (by simp)
      simp only [Nat.add_zero, slots] at this
      rw [this]
      split <;> rfl
    have hsl' : ∀ j, j < os.length → sl (i + 1 + j) = (slots os (if allocB o then nx + 1 else nx)).getD j 0 := fun j hj => by
      have := hsl (j + 1) (by simpa using hj)
      rw [show i + 1 + j = i + (j + 1) from by omega, this]
      simp only [slots]
      split <;> simp
    simp only [rvcX] at h
    cases hg : guardB opsA o st with
    | none => rw [hg] at h; exact h.elim
    | some g =>
      rw [hg] at h
      simp only at h
      cases g with
      | true =>
        rw [if_pos rfl] at h
        cases hst : step o st.eval st.σ (if allocB o then nx else farS) with
        | no => rw [hst] at h; exact h.elim
        | call =>
          rw [hst] at h
          obtain ⟨rd, out, hop, hset, h⟩ := h
          obtain ⟨rs, hv, hK⟩ := ih (i + 1) _ _ _ hsl' h
          exact ⟨⟨true, rd, out⟩ :: rs, ⟨_, rs, rfl, hg, (fun h => by cases h), fun _ => by rw [h0]; exact hop, by rw [h0]; exact hset, hv⟩, by simpa [fin] using hK⟩
        | yes c rd out =>
          rw [hst] at h
          obtain ⟨hc, h⟩ := h
          obtain ⟨hop, hset⟩ := hs _ _ _ _ _ _ _ hst hc
          obtain ⟨rs, hv, hK⟩ := ih (i + 1) _ _ _ hsl' h
          exact ⟨⟨true, rd, out⟩ :: rs, ⟨_, rs, rfl, hg, (fun h => by cases h), fun _ => by rw [h0]; exact hop, by rw [h0]; exact hset, hv⟩, by simpa [fin] using hK⟩
      | false =>
        rw [if_neg (by simp)] at h
        obtain ⟨rs, hv, hK⟩ := ih (i + 1) _ _ _ hsl' h
        exact ⟨⟨false, [], ⟨.v undef, []⟩⟩ :: rs, ⟨_, rs, rfl, hg, fun _ => rfl, (fun h => by cases h), (fun p hp => by cases hp), hv⟩, by simpa [fin] using hK⟩

/-- The state with room. -/
def roomy (st : St) (n : Nat) : St := ⟨st.fr, st.σ ++ List.replicate n .free⟩

theorem AWP_region {P : Program} {ro : Option Nat} {id : Nat} {ops : List Oper} {st : St} {K : Exit → St → Prop} (hs : Sound step P ro)
    (h : ∀ (KC : Oper → List Oper → Nat → St → List Rec → Prop) (J : List Rec → St → Prop), (∀ recs s, K .normal s → J recs s) →
      (∀ o os nx s recs, CallV P ro o s.eval s.σ (if allocB o then nx else farS) (fun rd out => rvc step ops.toArray KC J os (if allocB o then nx + 1 else nx) (out.app o.dst s) (recs ++ [⟨true, rd, out⟩])) → KC o os nx s recs) →
      rvc step ops.toArray KC J ops st.σ.length (roomy st (nalloc ops)) []) : AWP P ro (.region id ops.toArray false) st K := fun B a w hr Q hQ => by
  have hx := h (KCof step P ro ops.toArray (fun _ s => K .normal s)) (fun _ s => K .normal s) (fun _ _ h => h) (fun o os nx s recs hc => by
    unfold KCof
    simp only [rvc_eq] at hc
    exact hc)
  rw [rvc_eq] at hx
  obtain ⟨rs, hv, hK⟩ := rvcX_valid hs (sl := fun j => (slots ops st.σ.length).getD j 0) ops 0 _ _ _ (fun j _ => by simp) hx
  refine wpIn_region ?_
  rw [List.range_eq_range', List.size_toArray]
  exact seq_sound ops 0 _ rs a w (fun j => by simp) hv (hr.room _) (fun a' w' hr' => hQ _ _ _ _ hK hr')

theorem AWP_region_draw {P : Program} {ro : Option Nat} {id : Nat} {ops : List Oper} {st : St} {K : Exit → St → Prop} (hs : Sound step P ro) (hm : P.follows .mixedOrders = true)
    (h : ∀ (KC : Oper → List Oper → Nat → St → List Rec → Prop) (J : List Rec → St → Prop), (∀ recs s, chk ops (fun j => (slots ops st.σ.length).getD j 0) recs = true → K .normal s → J recs s) →
      (∀ o os nx s recs, CallV P ro o s.eval s.σ (if allocB o then nx else farS) (fun rd out => rvc step ops.toArray KC J os (if allocB o then nx + 1 else nx) (out.app o.dst s) (recs ++ [⟨true, rd, out⟩])) → KC o os nx s recs) →
      rvc step ops.toArray KC J ops st.σ.length (roomy st (nalloc ops)) []) : AWP P ro (.region id ops.toArray true) st K := fun B a w hr Q hQ => by
  have hx := h (KCof step P ro ops.toArray (fun recs s => chk ops (fun j => (slots ops st.σ.length).getD j 0) recs = true ∧ K .normal s)) (fun recs s => chk ops (fun j => (slots ops st.σ.length).getD j 0) recs = true ∧ K .normal s)
    (fun _ _ h1 h2 => ⟨h1, h2⟩) (fun o os nx s recs hc => by
    unfold KCof
    simp only [rvc_eq] at hc
    exact hc)
  rw [rvc_eq] at hx
  obtain ⟨rs, hv, hchk, hK⟩ := rvcX_valid hs (sl := fun j => (slots ops st.σ.length).getD j 0) ops 0 _ _ _ (fun j _ => by simp) hx
  refine wpIn_region_any hm ?_
  rw [List.size_toArray]
  refine any_sound hv (by simpa using hchk) (fun a' w' hr' => hQ _ _ _ _ hK hr') ops.length _ a _ (by simp) (fun i o ho hL => ?_) ?_ ?_
  · exfalso
    simp [Array.getD_eq_getD_getElem?, Array.getElem?_replicate] at hL
    split at hL <;> simp at hL
  · simp [left]
  · rw [fin_none _ _ _ _ (fun j _ => by simp [Array.getD_eq_getD_getElem?, Array.getElem?_replicate]; split <;> rfl)]
    exact (hr.room _).of_heap rfl rfl rfl rfl
end

end Go.Proofs.Ytabliglgeiajlaa.AM
