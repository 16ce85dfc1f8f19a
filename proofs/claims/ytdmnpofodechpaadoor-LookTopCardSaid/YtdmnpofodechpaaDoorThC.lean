/- What lies at a path of a stack, without folding: in plain words. -/
import Derived.Test.YtdmnpofodechpaaDoorThB2
namespace Go.Proofs.YtdmnpofodechpaaDoor.Th
open Go Go.Proofs.YtdmnpofodechpaaDoor.Print
set_option linter.unusedVariables false
set_option linter.unusedSimpArgs false

/-- One layer looked at, from the top down: what is known so far (the floor, is it met), what to go on with. -/
inductive Seen where
  | on (floor : Nat) (met : Bool)
  | dir (floor : Nat)
  | none_
  | file (e : En) (i : Nat)
/-- Asked of the layers (the top one first; the last one has number 0), down to a floor. -/
def askG (p : By) (fl : Nat) : List (List En) → Nat → Bool → Seen
  | [], f, met => .on f met
  | l :: r, f, met => if r.length < fl then .on f met else match fnd l p with
    | none => askG p fl r f met
    | some e => if e.f1 = 3 ∨ e.f1 = 1 ∧ met = true then (if met then .dir f else .none_)
      else if e.f1 = 1 then .file e r.length
      else if e.f1 = 4 then .dir r.length
      else askG p fl r r.length true
/-- What there is at last: a file of a layer, a directory with its floor, or nothing. -/
def fin : Seen → Option (Option En × Nat)
  | .on f true => some (none, f)
  | .on _ false => none
  | .dir f => some (none, f)
  | .none_ => none
  | .file e i => some (some e, i)
def askL (s : List (List En)) (p : By) (fl : Nat) : Option (Option En × Nat) := fin (askG p fl s.reverse 0 false)

/-! ### what hides, at and above a path -/
def HidE (l : List En) (q : By) : Prop := ∃ x ∈ l, x.f1 ≠ 2 ∧ (ky x = q ∨ Und q (ky x))
theorem hidE_of_par {l : List En} {p : By} (hp : Pth p) (hk : ∀ x ∈ l, Pth (ky x)) : Hid l p ↔ HidE l (parB p) := by
  constructor
  · rintro ⟨x, hx, h2, hu⟩
    exact ⟨x, hx, h2, hp.up hu⟩
  · rintro ⟨x, hx, h2, e | hu⟩
    · exact ⟨x, hx, h2, by rw [e]; exact hp.und⟩
    · exact ⟨x, hx, h2, hp.und.trans hu⟩
theorem hidE_nil (l : List En) (hk : ∀ x ∈ l, Pth (ky x)) : ¬ HidE l [] := by
  rintro ⟨x, hx, h2, e | hu⟩
  · exact (hk x hx).ne e
  · have := hu.len; simp at this
/-- Where nothing stands, or a file, nothing lies under it. -/
theorem TreF.under {F : By → Option En} (h : TreF F) : ∀ (n : Nat) (p q : By), p.length ≤ n → Und p q → q ≠ [] → (∀ x, F q = some x → x.f1 ≠ 2) → F p = none := by
  intro n
  induction n with
  | zero => intro p q hn hu; have := hu.len; omega
  | succ n ih =>
    intro p q hn hu hq hx
    cases hf : F p with
    | none => rfl
    | some e =>
      exfalso
      obtain ⟨hk, hr, _⟩ := h.rt p e hf
      have hP : Pth p := hk ▸ hr.1
      rcases h.par p e hf with h0 | ⟨x, hpx, h2⟩
      · exact hq (hP.not_und_nil_par h0 hu)
      · rcases hP.up hu with e1 | e1
        · rw [← e1] at hpx; exact hx x hpx h2
        · have := ih (parB p) q (by have := hP.und.len; omega) e1 hq hx
          rw [hpx] at this; cases this

/-- A directory's floor: nothing of the layers above breaks it; nothing of those below shines through. -/
structure Inv (s : List (List En)) (q : By) (fl : Nat) : Prop where
  above : ∀ i l, s[i]? = some l → fl < i → ¬ HidE l q
  base : (∀ p, Und p q → shows (s.take fl) p = none) ∨ ∃ l, s[fl]? = some l ∧ HidE l q
theorem Inv.root {s : List (List En)} (hs : ∀ l ∈ s, Lyr l) : Inv s [] 0 :=
  ⟨fun i l h _ => hidE_nil l (fun x hx => ((hs l (List.mem_of_getElem? h)).rt x hx).1), .inl fun p _ => by rw [List.take_zero]; rfl⟩
theorem take_succ_shows {s : List (List En)} {i : Nat} {l : List En} (h : s[i]? = some l) : shows (s.take (i + 1)) = ovr (shows (s.take i)) l := by
  rw [List.take_add_one, h, Option.toList_some, shows_snoc]
/-- From the floor on, the topmost layer that says something decides. -/
theorem Inv.step {s : List (List En)} (hs : ∀ l ∈ s, Lyr l) {p : By} (hp : Pth p) {fl : Nat} (hI : Inv s (parB p) fl) {i : Nat} {l : List En} (h : s[i]? = some l) (hi : fl < i) :
    shows (s.take (i + 1)) p = match fnd l p with | some e => shw e | none => shows (s.take i) p := by
  rw [take_succ_shows h]
  unfold ovr
  cases fnd l p with
  | some e => rfl
  | none =>
    simp only
    rw [if_neg]
    rw [hidE_of_par hp (fun x hx => ((hs l (List.mem_of_getElem? h)).rt x hx).1)]
    exact hI.above i l h hi
theorem Inv.step0 {s : List (List En)} (hs : ∀ l ∈ s, Lyr l) {p : By} (hp : Pth p) {fl : Nat} (hI : Inv s (parB p) fl) {l : List En} (h : s[fl]? = some l) :
    shows (s.take (fl + 1)) p = match fnd l p with | some e => shw e | none => none := by
  rw [take_succ_shows h]
  unfold ovr
  cases fnd l p with
  | some e => rfl
  | none =>
    simp only
    rcases hI.base with hb | ⟨l', h', hh⟩
    · rw [hb p hp.und]; split <;> rfl
    · rw [h] at h'; obtain rfl := Option.some.inj h'
      rw [if_pos ((hidE_of_par hp (fun x hx => ((hs l (List.mem_of_getElem? h)).rt x hx).1)).2 hh)]

/-- Does a layer make a path a directory, over what lies below it? (the reference's question) -/
def Mk (s : List (List En)) (p : By) (i : Nat) : Prop := ∃ l e, s[i]? = some l ∧ fnd l p = some e ∧ (e.f1 = 4 ∨ e.f1 = 2 ∧ ∀ x, shows (s.take i) p = some x → x.f1 ≠ 2)
/-- What is asked answers what is shown, and a directory's floor is one again. -/
structure Ans (s : List (List En)) (p : By) (fl : Nat) (o : Option (Option En × Nat)) : Prop where
  none_ : o = none → shows s p = none
  file : ∀ e i, o = some (some e, i) → shows s p = some e ∧ e.f1 = 1 ∧ fl ≤ i ∧ i < s.length ∧ ∃ l, s[i]? = some l ∧ fnd l p = some e
  dir : ∀ f, o = some (none, f) → (∃ e, shows s p = some e ∧ e.f1 = 2) ∧ fl ≤ f ∧ f < s.length ∧ Inv s p f ∧ (∀ i, f < i → ¬ Mk s p i) ∧ (f = fl ∨ Mk s p f)

/-- Between two layers of the asking: the layers from n on are seen; below n nothing is known. -/
structure Mid (s : List (List En)) (p : By) (fl n f : Nat) (met : Bool) : Prop where
  le : fl ≤ n ∧ n ≤ s.length
  no : met = false → shows s p = if fl < n then shows (s.take n) p else none
  nob : met = false → ∀ i l, s[i]? = some l → n ≤ i → fnd l p = none
  yes : met = true → n ≤ f ∧ f < s.length ∧ fl ≤ f ∧ (∃ e, shows s p = some e ∧ e.f1 = 2) ∧ (∃ l e, s[f]? = some l ∧ fnd l p = some e ∧ e.f1 = 2) ∧ (∀ i l e, s[i]? = some l → f < i → fnd l p = some e → e.f1 = 2) ∧
    (∀ i l, s[i]? = some l → n ≤ i → i < f → fnd l p = none) ∧ (∀ i, f < i → i ≤ s.length → ∃ e, shows (s.take i) p = some e ∧ e.f1 = 2)
theorem no_between {s : List (List En)} (hs : ∀ l ∈ s, Lyr l) {p : By} (hp : Pth p) {fl : Nat} (hI : Inv s (parB p) fl) {a : Nat} (ha : fl < a) : ∀ d, a + d ≤ s.length → (∀ i l, s[i]? = some l → a ≤ i → i < a + d → fnd l p = none) → shows (s.take (a + d)) p = shows (s.take a) p := by
  intro d
  induction d with
  | zero => intro _ _; rfl
  | succ d ih =>
    intro hb hn
    have hlt : a + d < s.length := by omega
    have hg : s[a + d]? = some s[a + d] := List.getElem?_eq_getElem hlt
    rw [← Nat.add_assoc, hI.step hs hp hg (by omega), hn _ _ hg (by omega) (by omega)]
    exact ih (by omega) (fun i l h h1 h2 => hn i l h h1 (by omega))
theorem no_betw {s : List (List En)} (hs : ∀ l ∈ s, Lyr l) {p : By} (hp : Pth p) {fl : Nat} (hI : Inv s (parB p) fl) {a b : Nat} (ha : fl < a) (hab : a ≤ b) (hb : b ≤ s.length) (hn : ∀ i l, s[i]? = some l → a ≤ i → i < b → fnd l p = none) : shows (s.take b) p = shows (s.take a) p := by
  obtain ⟨d, rfl⟩ : ∃ d, b = a + d := ⟨b - a, by omega⟩
  exact no_between hs hp hI ha d hb hn
/-- One layer up from the floor, or above it. -/
theorem Inv.stepc {s : List (List En)} (hs : ∀ l ∈ s, Lyr l) {p : By} (hp : Pth p) {fl : Nat} (hI : Inv s (parB p) fl) {i : Nat} {l : List En} (h : s[i]? = some l) (hi : fl ≤ i) :
    shows (s.take (i + 1)) p = match fnd l p with | some e => shw e | none => if fl < i then shows (s.take i) p else none := by
  rcases Nat.eq_or_lt_of_le hi with rfl | hlt
  · rw [hI.step0 hs hp h]; cases fnd l p with
    | some e => rfl
    | none => simp
  · rw [hI.step hs hp h hlt]; cases fnd l p with
    | some e => rfl
    | none => simp only; rw [if_pos hlt]
theorem Inv.down {s : List (List En)} (hs : ∀ l ∈ s, Lyr l) {p : By} (hp : Pth p) {fl : Nat} (hI : Inv s (parB p) fl) {f : Nat} (hf : fl ≤ f)
    (habove : ∀ i l e, s[i]? = some l → f < i → fnd l p = some e → e.f1 = 2) {l0 : List En} (h0 : s[f]? = some l0)
    (hb : (∃ e, fnd l0 p = some e ∧ e.f1 ≠ 2) ∨ f = fl ∨ ∀ x, shows (s.take f) p = some x → x.f1 ≠ 2) : Inv s p f := by
  refine ⟨fun i l h hi => ?_, ?_⟩
  · rintro ⟨x, hx, h2, e | hu⟩
    · have hl := hs l (List.mem_of_getElem? h)
      exact h2 (habove i l x h hi (e ▸ hl.srt.at_ hx))
    · refine hI.above i l h (by omega) ⟨x, hx, h2, (hp.up hu).imp (fun e => e) (fun e => e)⟩
  · rcases hb with ⟨e, he, h2⟩ | rfl | hb
    · exact .inr ⟨l0, h0, e, (fnd_mem he).1, h2, .inl (fnd_mem he).2⟩
    · rcases hI.base with hb | ⟨l', h', x, hx, h2, hk⟩
      · exact .inl fun q hq => hb q (hq.trans hp.und)
      · refine .inr ⟨l', h', x, hx, h2, .inr ?_⟩
        rcases hk with e | hu
        · rw [e]; exact hp.und
        · exact hp.und.trans hu
    · left
      intro q hq
      have hT : TreF (shows (s.take f)) := shows_tre fun l h => hs l (List.mem_of_mem_take h)
      exact hT.under _ q p (Nat.le_refl _) hq hp.ne hb
theorem ask_ok {s : List (List En)} (hs : ∀ l ∈ s, Lyr l) {p : By} (hp : Pth p) {fl : Nat} (hI : Inv s (parB p) fl) :
    ∀ (r : List (List En)) (n f : Nat) (met : Bool), r = (s.take n).reverse → Mid s p fl n f met → Ans s p fl (fin (askG p fl r f met)) := by
  -- where the asking ends at the floor, or at something that is no directory, below n
  have stop : ∀ (n f : Nat), Mid s p fl n f true → (n = fl ∨ fl < n ∧ ∀ x, shows (s.take n) p = some x → x.f1 ≠ 2) → Ans s p fl (some (none, f)) := by
    intro n f hM hb
    obtain ⟨hnf, hfl, hff, hsh, ⟨l0, e0, h0, he0, h02⟩, hab, hbt, hal⟩ := hM.yes rfl
    refine ⟨fun h => by (cases h), fun e i h => by (cases h), fun f' h => ?_⟩
    obtain rfl : f = f' := by cases h; rfl
    have hbelow : f = fl ∨ ∀ x, shows (s.take f) p = some x → x.f1 ≠ 2 := by
      rcases Nat.eq_or_lt_of_le hff with e | hlt
      · exact .inl e.symm
      · right
        rcases hb with rfl | ⟨hl2, hb⟩
        · -- no entry from the floor on: nothing is there
          have hg : s[n]? = some (s[n]'(by omega)) := List.getElem?_eq_getElem (by omega)
          have e1 := no_betw hs hp hI (a := n + 1) (b := f) (by omega) (by omega) (by omega) (fun i l h h1 h2 => hbt i l h (by omega) h2)
          rw [e1, hI.step0 hs hp hg, hbt n _ hg (Nat.le_refl _) hlt]
          intro x hx; cases hx
        · have e1 := no_betw hs hp hI (a := n) (b := f) hl2 hnf (by omega) hbt
          rw [e1]; exact hb
    refine ⟨hsh, hff, hfl, hI.down hs hp hff hab h0 (.inr hbelow), ?_, ?_⟩
    · rintro i hi ⟨l, e, h, he, h4 | ⟨h2, hx⟩⟩
      · have := hab i l e h hi he; omega
      · obtain ⟨x, h1, h3⟩ := hal i hi (Nat.le_of_lt (List.getElem?_eq_some_iff.1 h).1)
        exact hx x h1 h3
    · rcases hbelow with e | hx
      · exact .inl e
      · exact .inr ⟨l0, e0, h0, he0, .inr ⟨h02, hx⟩⟩
  have nothing : ∀ (n f : Nat), Mid s p fl n f false → (fl < n → shows (s.take n) p = none) → Ans s p fl none := by
    intro n f hM hx
    refine ⟨fun _ => (hM.no rfl).trans ?_, fun e i h => by (cases h), fun f' h => by (cases h)⟩
    split
    · rename_i h; exact hx h
    · rfl
  intro r
  induction r with
  | nil =>
    intro n f met hr hM
    have hn0 : n = 0 := by
      have := congrArg List.length hr
      have := hM.le
      simp at *
      omega
    subst hn0
    have := hM.le
    unfold askG
    cases met with
    | true => exact stop 0 f hM (.inl (by omega))
    | false => exact nothing 0 f hM (fun h => by omega)
  | cons l r ih =>
    intro n f met hr hM
    have hlen := congrArg List.length hr
    simp only [List.length_cons, List.length_reverse, List.length_take] at hlen
    have hnle := hM.le
    obtain ⟨m, rfl⟩ : ∃ m, n = m + 1 := ⟨n - 1, by omega⟩
    have hml : m < s.length := by omega
    have hg : s[m]? = some s[m] := List.getElem?_eq_getElem hml
    have hrl : r.length = m := by omega
    rw [List.take_add_one, hg, Option.toList_some, List.reverse_append, List.reverse_singleton, List.singleton_append] at hr
    obtain ⟨hl0, hr2⟩ := List.cons.inj hr
    rw [← hl0] at hg
    clear hr hlen
    rw [askG, hrl]
    split
    · rename_i hlt
      have e : m + 1 = fl := by omega
      cases met with
      | true => exact stop (m + 1) f hM (.inl e)
      | false => exact nothing (m + 1) f hM (fun h => by omega)
    · rename_i hge
      have hfm : fl ≤ m := by omega
      have hv := hI.stepc hs hp hg hfm
      have hno : met = false → shows s p = shows (s.take (m + 1)) p := fun h => by rw [hM.no h, if_pos (by omega)]
      cases hf : fnd l p with
      | none =>
        rw [hf] at hv
        refine ih m f met hr2 ⟨⟨hfm, by omega⟩, fun h => (hno h).trans hv, fun h i l' h' hi => ?_, fun h => ?_⟩
        · rcases Nat.eq_or_lt_of_le hi with rfl | hi
          · rw [hg] at h'; obtain rfl := Option.some.inj h'; exact hf
          · exact hM.nob h i l' h' hi
        · obtain ⟨hnf, hfl, hff, hsh, h02, hab, hbt, hal⟩ := hM.yes h
          refine ⟨by omega, hfl, hff, hsh, h02, hab, fun i l' h' h1 h2 => ?_, hal⟩
          rcases Nat.eq_or_lt_of_le h1 with rfl | h1
          · rw [hg] at h'; obtain rfl := Option.some.inj h'; exact hf
          · exact hbt i l' h' h1 h2
      | some e =>
        rw [hf] at hv
        replace hv : shows (s.take (m + 1)) p = shw e := hv
        obtain ⟨hm, hk⟩ := fnd_mem hf
        have hr := (hs l (List.mem_of_getElem? hg)).rt e hm
        have hkd := hr.kind
        simp only
        -- what lies above m, if e makes a directory
        have above : ∀ i l' e', s[i]? = some l' → m < i → fnd l' p = some e' → e'.f1 = 2 := by
          intro i l' e' h' hi he'
          cases hmet : met with
          | false => rw [hM.nob hmet i l' h' hi] at he'; cases he'
          | true =>
            obtain ⟨hnf, hfl, hff, hsh, ⟨l0, e0, h0, he0, h02⟩, hab, hbt, hal⟩ := hM.yes hmet
            rcases Nat.lt_trichotomy i f with h1 | rfl | h1
            · rw [hbt i l' h' hi h1] at he'; cases he'
            · rw [h0] at h'; obtain rfl := Option.some.inj h'; rw [he0] at he'; obtain rfl := Option.some.inj he'; exact h02
            · exact hab i l' e' h' h1 he'
        have dirs : ∀ x, shows (s.take (m + 1)) p = some x → x.f1 = 2 → ∀ i, m < i → i ≤ s.length → ∃ e, shows (s.take i) p = some e ∧ e.f1 = 2 := by
          intro x hx hx2 i hi hil
          cases hmet : met with
          | false =>
            rw [no_betw hs hp hI (a := m + 1) (b := i) (by omega) hi hil (fun j l' h' h1 _ => hM.nob hmet j l' h' h1)]
            exact ⟨x, hx, hx2⟩
          | true =>
            obtain ⟨hnf, hfl, hff, hsh, ⟨l0, e0, h0, he0, h02⟩, hab, hbt, hal⟩ := hM.yes hmet
            rcases Nat.lt_or_ge f i with h1 | h1
            · exact hal i h1 hil
            · rw [no_betw hs hp hI (a := m + 1) (b := i) (by omega) hi hil (fun j l' h' h1 h2 => hbt j l' h' h1 (by omega))]
              exact ⟨x, hx, hx2⟩
        have shown : ∀ x, shows (s.take (m + 1)) p = some x → x.f1 = 2 → ∃ e, shows s p = some e ∧ e.f1 = 2 := by
          intro x hx hx2
          cases hmet : met with
          | false => exact ⟨x, (hno hmet).trans hx, hx2⟩
          | true => exact (hM.yes hmet).2.2.2.1
        by_cases h31 : e.f1 = 3 ∨ e.f1 = 1 ∧ met = true
        · rw [if_pos h31]
          have hx : ∀ x, shows (s.take (m + 1)) p = some x → x.f1 ≠ 2 := by
            intro x hx
            rw [hv] at hx
            unfold shw at hx
            rcases h31 with h3 | ⟨h1, _⟩
            · rw [if_pos h3] at hx; cases hx
            · rw [if_neg (by omega), if_neg (by omega)] at hx; obtain rfl := Option.some.inj hx; omega
          cases met with
          | true => exact stop (m + 1) f hM (.inr ⟨by omega, hx⟩)
          | false =>
            refine nothing (m + 1) f hM (fun _ => ?_)
            rcases h31 with h3 | ⟨_, h⟩
            · rw [hv]; unfold shw; rw [if_pos h3]
            · cases h
        · rw [if_neg h31]
          have hnot3 : e.f1 ≠ 3 := fun h => h31 (.inl h)
          by_cases h1 : e.f1 = 1
          · rw [if_pos h1]
            have hmet : met = false := by cases met with
              | false => rfl
              | true => exact absurd (.inr ⟨h1, rfl⟩) h31
            refine ⟨fun h => by (cases h), fun e' i h => ?_, fun f' h => by (cases h)⟩
            obtain ⟨rfl, rfl⟩ : e = e' ∧ m = i := by
              unfold fin at h; cases h; exact ⟨rfl, rfl⟩
            refine ⟨?_, h1, hfm, hml, l, hg, hf⟩
            rw [hno hmet, hv]
            unfold shw
            rw [if_neg (by omega), if_neg (by omega)]
          · rw [if_neg h1]
            by_cases h4 : e.f1 = 4
            · rw [if_pos h4]
              have hd : shows (s.take (m + 1)) p = some ⟨e.f0, 2, e.f2⟩ := by
                rw [hv]; unfold shw; rw [if_neg hnot3, if_pos h4]
              refine ⟨fun h => by (cases h), fun e' i h => by (cases h), fun f' h => ?_⟩
              obtain rfl : m = f' := by unfold fin at h; cases h; rfl
              refine ⟨shown _ hd rfl, hfm, hml, hI.down hs hp hfm above hg (.inl ⟨e, hf, by omega⟩), ?_, .inr ⟨l, e, hg, hf, .inl h4⟩⟩
              rintro i hi ⟨l', e', h', he', hq⟩
              have h2' := above i l' e' h' hi he'
              rcases hq with hq | ⟨_, hq⟩
              · omega
              · obtain ⟨x, hx, hx2⟩ := dirs _ hd rfl i hi (Nat.le_of_lt (List.getElem?_eq_some_iff.1 h').1)
                exact hq x hx hx2
            · rw [if_neg h4]
              have h2 : e.f1 = 2 := by omega
              have hd : shows (s.take (m + 1)) p = some e := by rw [hv]; exact shw_two h2
              refine ih m m true hr2 ⟨⟨hfm, by omega⟩, fun h => by (cases h), fun h => by (cases h), fun _ => ⟨Nat.le_refl _, hml, hfm, shown _ hd h2, ⟨l, e, hg, hf, h2⟩, above, fun i l' h' h1 h2 => by omega, dirs _ hd h2⟩⟩
theorem askL_ok {s : List (List En)} (hs : ∀ l ∈ s, Lyr l) {p : By} (hp : Pth p) {fl : Nat} (hfl : fl ≤ s.length) (hI : Inv s (parB p) fl) : Ans s p fl (askL s p fl) := by
  unfold askL
  refine ask_ok hs hp hI s.reverse s.length 0 false (by rw [List.take_length]) ⟨⟨hfl, Nat.le_refl _⟩, fun _ => ?_, fun _ i l h hi => ?_, fun h => by (cases h)⟩
  · rcases Nat.eq_or_lt_of_le hfl with e | hlt
    · rw [if_neg (by omega)]
      rcases hI.base with hb | ⟨l, h, _⟩
      · have := hb p hp.und
        rwa [e, List.take_length] at this
      · rw [e, List.getElem?_eq_none (Nat.le_refl _)] at h; cases h
    · rw [if_pos hlt, List.take_length]
  · rw [List.getElem?_eq_none hi] at h; cases h
end Go.Proofs.YtdmnpofodechpaaDoor.Th
