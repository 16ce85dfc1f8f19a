/- Rows of entries (a text, a number, a text) by their cells: slices.IndexFunc and slices.DeleteFunc at entries, whatever the predicate. -/
import Derived.Test.YtklcceccadlgkaaDoorSearchW
namespace Go.Proofs.YtklcceccadlgkaaDoor.Print
open Go Go.RowKit Go.Proofs.YtklcceccadlgkaaDoorW.PrintWords Go.Proofs.YtklcceccadlgkaaDoorW.PrintLast Go.Proofs.YtklcceccadlgkaaDoorW.PrintMore
set_option linter.unusedVariables false
set_option linter.unusedSimpArgs false
section
variable {α : Type} (P : α → ByteArray) (K : α → Int) (D : α → ByteArray)
/-- An entry's cells. -/
def e3 (x : α) : List Value := [.string (P x), .int .i64 (K x), .string (D x)]
def kd3 : Kd α := Kd.iso (Kd.pair Kd.string (Kd.pair (Kd.int .i64) Kd.string)) (fun x => (P x, K x, D x))
theorem flat3 : Flat (kd3 P K D) (e3 P K D) where
  len := fun _ => rfl
  pos := (by show 0 < 3; omega)
  one := fun x u hu => by simp [e3] at hu; rcases hu with rfl | rfl | rfl <;> rfl
  K := fun w x cs => by
    constructor
    · rintro ⟨_, _, rfl, rfl, ⟨_, _, rfl, rfl, rfl⟩⟩; rfl
    · rintro rfl; exact ⟨[_], [_, _], rfl, rfl, ⟨[_], [_], rfl, rfl, rfl⟩⟩
  M := fun w b ok x cs => by
    constructor
    · rintro ⟨_, _, rfl, rfl, ⟨_, _, rfl, rfl, rfl⟩⟩; rfl
    · rintro rfl; exact ⟨[_], [_, _], rfl, rfl, ⟨[_], [_], rfl, rfl, rfl⟩⟩
theorem sz3 : (kd3 P K D).sz = 3 := rfl
abbrev c3 (xs : List α) : List Value := encL (e3 P K D) xs
theorem c3_len (xs : List α) : (c3 P K D xs).length = xs.length * 3 := encL_length (flat3 P K D) xs
theorem c3_take (xs : List α) (n : Nat) : (c3 P K D xs).take (n * 3) = c3 P K D (xs.take n) := encL_take (flat3 P K D) xs n
theorem c3_drop (xs : List α) (n : Nat) : (c3 P K D xs).drop (n * 3) = c3 P K D (xs.drop n) := encL_drop (flat3 P K D) xs n
theorem c3_append (xs ys : List α) : c3 P K D (xs ++ ys) = c3 P K D xs ++ c3 P K D ys := List.flatMap_append
theorem c3_cons (x : α) (ys : List α) : c3 P K D (x :: ys) = e3 P K D x ++ c3 P K D ys := rfl
theorem c3_one (xs : List α) : ∀ u ∈ c3 P K D xs, u.oneCell' = true := encL_one (flat3 P K D) xs
theorem c3_get {xs : List α} {i : Nat} {x : α} (h : xs[i]? = some x) (j : Nat) (hj : j < 3) : (c3 P K D xs)[i * 3 + j]? = (e3 P K D x)[j]? := by
  obtain ⟨hl, rfl⟩ := List.getElem?_eq_some_iff.1 h
  have e := c3_drop P K D xs i
  rw [List.drop_eq_getElem_cons hl, c3_cons] at e
  have : (c3 P K D xs)[i * 3 + j]? = ((c3 P K D xs).drop (i * 3))[j]? := by rw [List.getElem?_drop]
  rw [this, e, List.getElem?_append_left (by simpa [e3] using hj)]
/-- The cells that are read at a list's places. -/
def At3 (w : World) (ad : Addr) (xs : List α) : Prop := ∀ j u, (c3 P K D xs)[j]? = some u → w.cell? (ad.add j) = some u
theorem At3.get {w : World} {ad : Addr} {xs : List α} (h : At3 P K D w ad xs) {i : Nat} {x : α} (hx : xs[i]? = some x) :
    w.cell? (ad.add (i * 3)) = some (.string (P x)) ∧ w.cell? ⟨(ad.add (i * 3)).block, (ad.add (i * 3)).off + 1, none⟩ = some (.int .i64 (K x)) ∧ w.cell? ⟨(ad.add (i * 3)).block, (ad.add (i * 3)).off + 2, none⟩ = some (.string (D x)) := by
  refine ⟨h (i * 3) _ ?_, ?_, ?_⟩
  · have := c3_get P K D hx 0 (by omega); simpa [e3] using this
  · rw [← add_field _ _ 1 (by omega)]; exact h _ _ (by have := c3_get P K D hx 1 (by omega); simpa [e3] using this)
  · rw [← add_field _ _ 2 (by omega)]; exact h _ _ (by have := c3_get P K D hx 2 (by omega); simpa [e3] using this)
theorem At3.below {w W : World} {ad : Addr} {xs : List α} (h : At3 P K D w ad xs) (hb : Below w.heap.size w W) : At3 P K D W ad xs := fun j u hu => by
  have h0 := h j u hu
  exact (hb.cell (World.block_lt_of_cell? _ _ h0)).trans h0
/-- What the search for the first gives. -/
def idx3 (q : α → Bool) (xs : List α) : Int := match xs.findIdx? q with | some i => (i : Int) | none => -1
/-- What is asked of a predicate: in every world of a kind it answers q, and lays but blocks of its own. -/
def Gives (G : Nat) (caps : Array Value) (q : α → Bool) (W : World) (xs : List α) : Prop :=
  ∀ x ∈ xs, Calls Tryd.prog G (#[.agg #[.string (P x), .int .i64 (K x), .string (D x)]] ++ caps) W fun e W' => e = .returned (.bool (q x)) ∧ Below W.heap.size W W'
theorem findIdx_snoc_none {q : α → Bool} {xs : List α} {k : Nat} (h : ∀ j, j < k → ∀ x, xs[j]? = some x → q x = false) {x : α} (hx : xs[k]? = some x) (hq : q x = true) : xs.findIdx? q = some k := by
  rw [List.findIdx?_eq_some_iff_getElem]
  obtain ⟨hl, e⟩ := List.getElem?_eq_some_iff.1 hx
  refine ⟨hl, by rw [e]; exact hq, fun j hj => ?_⟩
  rw [h j hj _ (List.getElem?_eq_getElem (by omega))]; simp
theorem findIdx_all_none {q : α → Bool} {xs : List α} (h : ∀ j, j < xs.length → ∀ x, xs[j]? = some x → q x = false) : xs.findIdx? q = none := by
  rw [List.findIdx?_eq_none_iff]
  intro x hx
  obtain ⟨j, hj, rfl⟩ := List.mem_iff_getElem.1 hx
  exact h j hj _ (List.getElem?_eq_getElem hj)
set_option maxHeartbeats 4000000 in
set_option maxRecDepth 100000 in
theorem indexFunc_at (ad : Addr) (c : Nat) (xs : List α) (G : Nat) (caps : Array Value) (q : α → Bool) (w : World) (eg : ∀ args w, (callFunc G args).run Tryd.prog w = .ok (.enter G args) w)
    (hn : xs.length < 4611686018427387904) (hA : At3 P K D w ad xs) (hq : ∀ W, Below w.heap.size w W → Gives P K D G caps q W xs) :
    Calls Tryd.prog 122 #[.slice (some ad) xs.length c, .func (.func G) #[] caps] w fun e w' => e = .returned (.int .i64 (idx3 q xs)) ∧ Below w.heap.size w w' := by
  have HA := Aside0.mk hA
  have HQ := Aside0.mk hq
  clear hA hq
  generalize hlen : xs.length = n at hn ⊢
  have HN := Aside0.mk hlen
  clear hlen
  go_enter Tryd.func122, Tryd.ntmps122
  go_wp2
  go_loopg [5, 8] n (fun gg _ s8 wr => ∃ kk : Nat, kk ≤ n ∧ n - kk ≤ gg ∧ s8 = .int .i64 kk ∧ Aside0 (Below w.heap.size w wr) ∧ Aside0 (∀ j, j < kk → ∀ x, xs[j]? = some x → q x = false))
  case atStart => exact ⟨0, Nat.zero_le _, by omega, rfl, ⟨Below.refl _ w⟩, ⟨fun j hj => absurd hj (Nat.not_lt_zero _)⟩⟩
  case round =>
    obtain ⟨kk, hkk, hg, rfl, BW, A⟩ := hrel
    by_cases hlt : kk < n
    · have hltz : (kk : Int) < (n : Int) := by omega
      obtain ⟨x, hx⟩ : ∃ x, xs[kk]? = some x := ⟨_, List.getElem?_eq_getElem (by rw [HN.out]; exact hlt)⟩
      obtain ⟨cc0, cc1, cc2⟩ := At3.get P K D (At3.below P K D HA.out BW.out) hx
      have hcall := HQ.out wr BW.out x (List.mem_of_getElem? hx)
      have HX := Aside0.mk hx
      clear hx
      cases hqx : q x with
      | true =>
        rw [hqx] at hcall
        have HQX := Aside0.mk hqx
        clear hqx
        go_wp2_with (go_at_fn G; refine hcall.mono ?_; rintro e w' ⟨rfl, hb'⟩)
        go_ret
        refine ⟨?_, BW.out.trans (hb'.mono BW.out.size)⟩
        unfold idx3
        rw [findIdx_snoc_none A.out HX.out HQX.out]
        rfl
      | false =>
        rw [hqx] at hcall
        have HQX := Aside0.mk hqx
        clear hqx
        go_wp2_with (go_at_fn G; refine hcall.mono ?_; rintro e w' ⟨rfl, hb'⟩)
        go_roundg (n - (kk + 1))
        case measure => omega
        case rel =>
          refine ⟨kk + 1, by omega, by omega, by go_num, ⟨BW.out.trans (hb'.mono BW.out.size)⟩, ⟨fun j hj y hy => ?_⟩⟩
          by_cases e : j = kk
          · subst e
            rw [HX.out] at hy
            obtain rfl := Option.some.inj hy
            exact HQX.out
          · exact A.out j (by omega) y hy
    · have hltz : ¬ (kk : Int) < (n : Int) := by omega
      obtain rfl : kk = n := by omega
      go_wp2
      go_ret
      refine ⟨?_, BW.out⟩
      unfold idx3
      rw [findIdx_all_none (fun j hj => A.out j (by rw [← HN.out]; exact hj))]
      rfl
/-! ### an own row is written at a place -/
theorem splice_take {cur : List Value} {o : Nat} {cs : List Value} (h : o + cs.length ≤ cur.length) : (splice cur o cs).take o = cur.take o := by
  unfold splice
  rw [List.take_append_of_le_length (by rw [List.length_take]; omega), List.take_take, Nat.min_self]
theorem splice_take2 {cur : List Value} {o : Nat} {cs : List Value} (h : o + cs.length ≤ cur.length) : (splice cur o cs).take (o + cs.length) = cur.take o ++ cs := by
  unfold splice
  rw [← List.append_assoc, List.take_append_of_le_length (by simp; omega), List.take_of_length_le (by simp; omega)]
theorem splice_drop {cur : List Value} {o : Nat} {cs : List Value} (h : o + cs.length ≤ cur.length) : (splice cur o cs).drop (o + cs.length) = cur.drop (o + cs.length) := by
  unfold splice
  rw [← List.append_assoc, List.drop_append, List.drop_eq_nil_of_le (by simp; omega), List.nil_append]
  have : o + cs.length - (cur.take o ++ cs).length = 0 := by simp; omega
  rw [this, List.drop_zero]
section
variable {Pg : Program} {ops : Array Oper} {rest : List Oper} {o : Oper} {a : Act} {Q : Exit → Act → World → Prop} {w : World}
/-- A store of a whole element into a row of one block. -/
theorem wp_store_blk (hgd : o.guard = none) (t : TypeId) (x y : Operand) (ho : o.op = .store t x y) (k : Nat) (hs : (Pg.info? t).map (·.size) = some k)
    (g off : Nat) (hx : a.eval x = .pointer (some ⟨g, off, none⟩)) (v : Value) (hy : a.eval y = v) (cs : List Value) (hv : v.cells.toList = cs) (hl : cs.length = k) (cur : List Value) (tt : TypeId) (hg : Blk w g tt cur)
    (hfit : off + cs.length ≤ cur.length) (h1 : ∀ u ∈ cs, u.oneCell' = true) {B : Nat} {w0 : World} (hb : Below B w0 w) (hBg : B ≤ g)
    (h : ∀ w', Aside0 (Blk w' g tt (splice cur off cs)) → Aside0 (KB w w' g) → Aside0 (Below B w0 w') → wpList Pg ops Q rest (a.put o.dst undef) w') : wpList Pg ops Q (o :: rest) a w := by
  refine wpList_plain hgd fun K hK => ?_
  cases hq : Pg.info? t with
  | none => simp [hq] at hs
  | some i =>
    have hi : i.size = k := by simpa [hq] using hs
    have hst := run_storeCells_at Pg g off tt cs 0 cur.toArray w hg (by simpa using hfit) h1
    have hvs : v.cells.size = k := by rw [← hl, ← hv]; simp
    unfold Oper.wp
    simp [execOp, ho, hx, hy, Instr.storeAt, Instr.sureAddr, storeVar, sizeOf, typeInfo, hq, hi, hvs, hv, hst, Result.andThen]
    exact hK _ _ (h _ ⟨hg.set _⟩ ⟨KB.setRow _ _ _⟩ ⟨below_setRow hb hBg _⟩)
end
theorem gate_st3 {Pg : Program} {ops : Array Oper} {rest : List Oper} {o : Oper} {a : Act} {Q : Exit → Act → World → Prop} {w : World} {t : TypeId} {x y : Operand} (_ho : o.op = .store t x y) (h : wpList Pg ops Q (o :: rest) a w) : wpList Pg ops Q (o :: rest) a w := h
def Hold (p : Prop) : Prop := p
theorem hold {p : Prop} (h : Hold p) : p := h
theorem box3 {W W' : World} {a b c : Value} {t : TypeId} (hb : Below (W.alloc (.cells #[a, b, c] t)).heap.size (W.alloc (.cells #[a, b, c] t)) W') :
    W'.cell? ⟨W.heap.size, 0, none⟩ = some a ∧ W'.cell? ⟨W.heap.size, 1, none⟩ = some b ∧ W'.cell? ⟨W.heap.size, 2, none⟩ = some c := by
  refine ⟨(hb.cell (p := ⟨W.heap.size, 0, none⟩) (by simp)).trans (by simp), (hb.cell (p := ⟨W.heap.size, 1, none⟩) (by simp)).trans (by simp), (hb.cell (p := ⟨W.heap.size, 2, none⟩) (by simp)).trans (by simp)⟩
theorem Blk.below {w W : World} {g e : Nat} {cur : List Value} (h : Blk w g e cur) (hb : Below w.heap.size w W) : Blk W g e cur := (hb.block g h.lt).trans h
theorem Tryd.size3 : (Tryd.prog.info? 23).map (·.size) = some 3 := by kernel_rfl
theorem Tryd.zero3 (w : World) : (zeroValue 23).run Tryd.prog w = .ok (.agg #[.string ⟨#[]⟩, .int .i64 0, .string ⟨#[]⟩]) w := by kernel_rfl
theorem Blk.at3 {w : World} {g e : Nat} {cur : List Value} (h : Blk w g e cur) {xs : List α} (ht : cur.take (xs.length * 3) = c3 P K D xs) : At3 P K D w ⟨g, 0, none⟩ xs := fun j u hu => by
  rw [addr_add, Nat.zero_add]
  refine h.cell ?_
  rw [← ht, List.getElem?_take] at hu
  split at hu
  · exact hu
  · cases hu
theorem filt_len (q : α → Bool) (xs : List α) (j : Nat) (hj : j ≤ xs.length) : ((xs.take j).filter fun x => !q x).length ≤ j := by
  have := List.length_filter_le (fun x => !q x) (xs.take j)
  rw [List.length_take] at this
  omega
theorem filt_snoc (q : α → Bool) (xs : List α) {j : Nat} {x : α} (hx : xs[j]? = some x) : (xs.take (j + 1)).filter (fun x => !q x) = (xs.take j).filter (fun x => !q x) ++ (if q x then [] else [x]) := by
  rw [List.take_add_one, hx, List.filter_append]
  simp only [Option.toList_some, List.filter_cons, List.filter_nil]
  cases q x <;> simp
theorem filt_first (q : α → Bool) (xs : List α) {k : Nat} (h : xs.findIdx? q = some k) : k < xs.length ∧ (xs.take k).filter (fun x => !q x) = xs.take k ∧ ∀ x, xs[k]? = some x → q x = true := by
  obtain ⟨hk, h1, h2⟩ := List.findIdx?_eq_some_iff_getElem.1 h
  refine ⟨hk, List.filter_eq_self.2 fun x hx => ?_, fun x hx => ?_⟩
  · obtain ⟨j, hj, rfl⟩ := List.mem_iff_getElem.1 hx
    rw [List.length_take] at hj
    rw [List.getElem_take]
    have := h2 j (by omega)
    simpa using this
  · rw [List.getElem?_eq_getElem hk] at hx
    rw [← Option.some.inj hx]; exact h1
theorem filt_none (q : α → Bool) (xs : List α) (h : xs.findIdx? q = none) : xs.filter (fun x => !q x) = xs := by
  rw [List.filter_eq_self]
  intro x hx
  rw [List.findIdx?_eq_none_iff.1 h x hx]; rfl
set_option maxHeartbeats 8000000 in
set_option maxRecDepth 100000 in
/-- slices.DeleteFunc on a row of one block. -/
theorem deleteFunc_blk (g cap : Nat) (cur : List Value) (xs : List α) (G : Nat) (caps : Array Value) (q : α → Bool) (w0 w : World) (eg : ∀ args w, (callFunc G args).run Tryd.prog w = .ok (.enter G args) w)
    (hB : Below w0.heap.size w0 w) (hge : w0.heap.size ≤ g) (hg : Blk w g 23 cur) (hnc : xs.length ≤ cap) (hcm : cap ≤ 9223372036854775807) (hn : xs.length < 4611686018427387904) (hcs : cur.length = cap * 3) (ht : cur.take (xs.length * 3) = c3 P K D xs)
    (hq : ∀ W, KB w W g → Gives P K D G caps q W xs) :
    Calls Tryd.prog 102 #[.slice (some ⟨g, 0, none⟩) xs.length cap, .func (.func G) #[] caps] w fun e w' =>
      e = .returned (.slice (some ⟨g, 0, none⟩) (xs.filter fun x => !q x).length cap) ∧ (∃ cur', Blk w' g 23 cur' ∧ cur'.length = cap * 3 ∧ cur'.take ((xs.filter fun x => !q x).length * 3) = c3 P K D (xs.filter fun x => !q x)) ∧ KB w w' g ∧ Below w0.heap.size w0 w' := by
  have HI := Aside0.mk (indexFunc_at P K D ⟨g, 0, none⟩ cap xs G caps q w eg hn (hg.at3 P K D ht) (fun W hb => hq W (KB.below hb g)))
  have HQ := Aside0.mk hq
  have HB := Aside0.mk hB
  have HG := Aside0.mk hg
  have HC := Aside0.mk hcs
  have HT := Aside0.mk ht
  clear hq hB hg hcs ht
  cases hf : xs.findIdx? q with
  | none =>
    rw [filt_none q xs hf]
    have hi : idx3 q xs = -1 := by unfold idx3; rw [hf]
    rw [hi] at HI
    go_enter Tryd.func102, Tryd.ntmps102
    go_wp2_with (first | (go_at_call 122; refine HI.out.mono ?_; rintro e w' ⟨rfl, hb'⟩))
    go_ret
    exact ⟨rfl, ⟨cur, HG.out.below hb', HC.out, HT.out⟩, KB.below hb' g, HB.out.trans (hb'.mono HB.out.size)⟩
  | some k0 =>
    obtain ⟨hk0, hkt, hkq⟩ := filt_first q xs hf
    have hi : idx3 q xs = (k0 : Int) := by unfold idx3; rw [hf]
    rw [hi] at HI
    have HK := Aside0.mk hkt
    have HKQ := Aside0.mk hkq
    clear hi hkt hkq hf
    generalize hlen : xs.length = n at hnc hn hk0 HT ⊢
    rw [hlen] at HI
    have HN := Aside0.mk hlen
    clear hlen
    have hne1 : ((k0 : Int) == -1) = false := beq_eq_false_iff_ne.2 (by omega)
    have hne2 : ((k0 : Int) != -1) = true := bne_iff_ne.2 (by omega)
    go_enter Tryd.func102, Tryd.ntmps102
    go_wp2_with (first | (go_at_call 122; refine HI.out.mono ?_; rintro e w' ⟨rfl, hb'⟩))
    go_loopg [5, 6] n (fun gg s5 s6 wr => ∃ (i j : Nat) (cj : List Value), s5 = .int .i64 i ∧ s6 = .int .i64 j ∧ i < j ∧ j ≤ n ∧ n - j ≤ gg ∧ Aside0 (Blk wr g 23 cj) ∧ Aside0 (KB w wr g) ∧ Aside0 (Below w0.heap.size w0 wr) ∧ Aside0 (cj.length = cap * 3) ∧
      Aside0 (((xs.take j).filter fun x => !q x).length = i) ∧ Aside0 (cj.take (i * 3) = c3 P K D ((xs.take j).filter fun x => !q x)) ∧ Aside0 (cj.drop (j * 3) = cur.drop (j * 3)))
    case atStart =>
      obtain ⟨x0, hx0⟩ : ∃ x, xs[k0]? = some x := ⟨_, List.getElem?_eq_getElem (by rw [HN.out]; exact hk0)⟩
      have e1 : (xs.take (k0 + 1)).filter (fun x => !q x) = xs.take k0 := by rw [filt_snoc q xs hx0, HK.out, HKQ.out x0 hx0, if_pos rfl, List.append_nil]
      refine ⟨k0, k0 + 1, cur, rfl, rfl, by omega, by omega, by omega, ⟨HG.out.below hb'⟩, ⟨KB.below hb' g⟩, ⟨HB.out.trans (hb'.mono HB.out.size)⟩, HC, ⟨?_⟩, ⟨?_⟩, ⟨rfl⟩⟩
      · rw [e1, List.length_take]; have := HN.out; omega
      · rw [e1, ← c3_take, ← HT.out, List.take_take, Nat.min_eq_left (by omega)]
    case round =>
      obtain ⟨i, j, cj, rfl, rfl, hij, hjn, hgg, BL, KK, BB, LL, II, TT, DD⟩ := hrel
      by_cases hlt : j < n
      · have hltz : (j : Int) < (n : Int) := by omega
        obtain ⟨x, hx⟩ : ∃ x, xs[j]? = some x := ⟨_, List.getElem?_eq_getElem (by rw [HN.out]; exact hlt)⟩
        have hcell : ∀ m u, m < 3 → (e3 P K D x)[m]? = some u → wr.cell? ⟨g, j * 3 + m, none⟩ = some u := fun m u hm hu => by
          refine BL.out.cell ?_
          have e1 : (cj.drop (j * 3))[m]? = (cur.drop (j * 3))[m]? := by rw [DD.out]
          rw [List.getElem?_drop, List.getElem?_drop] at e1
          rw [e1, ← hu, ← c3_get P K D hx m hm, ← HT.out, List.getElem?_take, if_pos (by omega)]
        have cc0 := hcell 0 _ (by omega) rfl
        have cc1 := hcell 1 _ (by omega) rfl
        have cc2 := hcell 2 _ (by omega) rfl
        rw [Nat.add_zero] at cc0
        clear hcell
        have HX := Aside0.mk hx
        clear hx
        have hkb : KB w ((wr.alloc (.cells #[.string (P x), .int .i64 (K x), .string (D x)] 23))) g := KK.out.trans (KB.below ((Below.refl _ _).alloc (Nat.le_refl _) _) g)
        have hcall := HQ.out _ hkb x (List.mem_of_getElem? HX.out)
        have HKB := Aside0.mk hkb
        clear hkb
        have BB1 : Aside0 (Below w0.heap.size w0 (wr.alloc (.cells #[.string (P x), .int .i64 (K x), .string (D x)] 23))) := ⟨BB.out.alloc BB.out.size _⟩
        have BL1 : Aside0 (Blk (wr.alloc (.cells #[.string (P x), .int .i64 (K x), .string (D x)] 23)) g 23 cj) := ⟨BL.out.below ((Below.refl _ _).alloc (Nat.le_refl _) _)⟩
        cases hqx : q x with
        | false =>
          rw [hqx] at hcall
          have HQX := Aside0.mk hqx
          clear hqx
          go_wp2
          go_at_fn G
          refine hcall.mono ?_
          rintro e w' ⟨rfl, hb'⟩
          obtain ⟨b0, b1, b2⟩ := box3 hb'
          go_wp2_with (first
            | ((with_reducible refine gate_st3 (x := .tmp 33) (y := .tmp 32) rfl ?_); refine hold ?_))
          unfold Hold
          refine wp_store_blk rfl 23 (.tmp 33) (.tmp 32) rfl 3 Tryd.size3 g (i * 3) rfl _ rfl (e3 P K D x) rfl rfl cj 23 (BL1.out.below hb') ?hf (by intro u hu; simp [e3] at hu; rcases hu with rfl | rfl | rfl <;> rfl) (B := w0.heap.size) (w0 := w0) (BB1.out.trans (hb'.mono BB1.out.size)) hge ?_
          case hf => have := LL.out; simp [e3]; omega
          intro w2 hg2 hk2 hb2
          go_wp2
          go_roundg (n - (j + 1))
          case measure => omega
          case rel =>
            have hsl : i * 3 + (e3 P K D x).length ≤ cj.length := by have := LL.out; simp [e3]; omega
            refine ⟨i + 1, j + 1, _, by go_num, by go_num, by omega, by omega, Nat.le_refl _, hg2, ⟨(HKB.out.trans (KB.below hb' g)).trans hk2.out⟩, hb2, ⟨by rw [length_splice _ _ _ hsl]; exact LL.out⟩, ⟨?_⟩, ⟨?_⟩, ⟨?_⟩⟩
            · rw [filt_snoc q xs HX.out, HQX.out]; simp; exact II.out
            · rw [filt_snoc q xs HX.out, HQX.out, c3_append, ← TT.out, Nat.add_mul, Nat.one_mul]
              exact splice_take2 hsl
            · have e1 : ∀ L : List Value, L.drop ((j + 1) * 3) = (L.drop (i * 3 + (e3 P K D x).length)).drop ((j + 1) * 3 - (i * 3 + 3)) := fun L => by
                rw [List.drop_drop]; congr 1; simp [e3]; omega
              rw [e1, splice_drop hsl, ← e1]
              have e2 : (j + 1) * 3 = j * 3 + 3 := by omega
              rw [e2, ← List.drop_drop, ← List.drop_drop, DD.out]
        | true =>
          rw [hqx] at hcall
          have HQX := Aside0.mk hqx
          clear hqx
          go_wp2_with (go_at_fn G; refine hcall.mono ?_; rintro e w' ⟨rfl, hb'⟩)
          go_roundg (n - (j + 1))
          case measure => omega
          case rel =>
            refine ⟨i, j + 1, cj, rfl, by go_num, by omega, by omega, Nat.le_refl _, ⟨BL1.out.below hb'⟩, ⟨HKB.out.trans (KB.below hb' g)⟩, ⟨BB1.out.trans (hb'.mono BB1.out.size)⟩, LL, ⟨?_⟩, ⟨?_⟩, ⟨?_⟩⟩
            · rw [filt_snoc q xs HX.out, HQX.out]; simp; exact II.out
            · rw [filt_snoc q xs HX.out, HQX.out, TT.out]; simp
            · have e2 : (j + 1) * 3 = j * 3 + 3 := by omega
              rw [e2, ← List.drop_drop, ← List.drop_drop, DD.out]
      · obtain rfl : j = n := by omega
        have e0 : xs.take j = xs := List.take_of_length_le (by rw [HN.out]; omega)
        have II2 : Aside0 ((xs.filter fun x => !q x).length = i) := ⟨by have := II.out; rwa [e0] at this⟩
        have TT2 : Aside0 (cj.take (i * 3) = c3 P K D (xs.filter fun x => !q x)) := ⟨by have := TT.out; rwa [e0] at this⟩
        clear e0
        have hin : i ≤ j := by omega
        have hic : ¬ cap = i := by omega
        go_wp2_with (first
          | ((with_reducible refine gate_builtin (b := .clear) (xs := #[.tmp 38]) rfl ?_); refine hold ?_))
        unfold Hold
        refine wp_clear rfl (.tmp 38) 61 23 3 rfl _ Tryd.underlying61 Tryd.zero3 rfl (by simp [Value.cells, Value.oneCell']) g (i * 3) (j - i) (cap - i) _ rfl cj 23 BL.out (fun _ => rfl) ?hfit BB.out hge ?_
        case hfit => have := LL.out; omega
        intro w2 zs hz hg2 hk2 hb2
        have hsl : i * 3 + zs.length ≤ cj.length := by have := LL.out; omega
        go_wp2
        go_ret
        refine ⟨by rw [II2.out]; rfl, ⟨_, hg2.out, by rw [length_splice _ _ _ hsl]; exact LL.out, ?_⟩, KK.out.trans hk2.out, hb2.out⟩
        rw [II2.out, splice_take hsl]
        exact TT2.out
end
end Go.Proofs.YtklcceccadlgkaaDoor.Print
