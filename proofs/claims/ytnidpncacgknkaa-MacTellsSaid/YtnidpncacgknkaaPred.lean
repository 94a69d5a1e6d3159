/- A region that draws its order, walked once, in the order of the text: each operation, in any world that came later, gives a value of which its own predicate holds; what it waits for is known. Of regions whose guards all hold. -/
import Derived.Test.YtnidpncacgknkaaSpec
namespace Go.Proofs.Ytnidpncacgknkaa
open Go.RowKit
/-- what is known of an operation's value: it itself, or a predicate -/
inductive Kd where
  | eq (c : Value)
  | pr (p : Value → World → Prop)
def Kd.ok : Kd → Value → World → Prop
  | .eq c, v, _ => v = c
  | .pr p, v, u => p v u
def Kd.val : Kd → Value → Value
  | .eq c, _ => c
  | .pr _, v => v
theorem Kd.val_ok {k : Kd} {v : Value} {u : World} (h : k.ok v u) : k.val v = v := by
  cases k with
  | eq c => exact Eq.symm h
  | pr p => rfl
@[go_sem] theorem Kd.val_eq (c v : Value) : (Kd.eq c).val v = c := rfl
@[go_sem] theorem Kd.val_pr (p : Value → World → Prop) (v : Value) : (Kd.pr p).val v = v := rfl
def Kd.stable (k : Kd) : Prop := ∀ v u u', Later u u' → k.ok v u → k.ok v u'
theorem Kd.stable_eq (c : Value) : (Kd.eq c).stable := fun _ _ _ _ h => h
theorem stable_nil : ∀ k ∈ ([] : List Kd), k.stable := fun _ h => by cases h
theorem stable_cons {k : Kd} {ks : List Kd} (h : k.stable) (h' : ∀ x ∈ ks, x.stable) : ∀ x ∈ k :: ks, x.stable := fun x hx => by
  rcases List.mem_cons.1 hx with rfl | hx
  · exact h
  · exact h' x hx
/-- what an operation waits for, is known -/
def known (md : Region.Mode) (pre : List (Kd × Value)) (o : Oper) (u : World) : Prop := ∀ e ∈ o.after, Region.binds md e = true → ∀ kv, pre[e.on]? = some kv → kv.1.ok (kv.1.val kv.2) u
def wpP (P : Program) (md : Region.Mode) (ops : Array Oper) (w0 : World) (Q : Act → World → Prop) : List Oper → List Kd → List (Kd × Value) → Act → Prop
  | [], _, _, a => ∀ u, Later w0 u → Q a u
  | _ :: _, [], _, _ => False
  | o :: l, k :: ks, pre, a => Region.wanted o (yielded ops a.tmps) = true ∧
      (∀ u, Later w0 u → known md pre o u → ∀ K : Act → World → Prop, Hid (∀ v a' u', a' = a.put o.dst v → Later u u' → k.ok v u' → K a' u') → o.wp P a u K (fun _ _ _ => False)) ∧
      ∀ v, ∀ K : Act → Prop, Hid (∀ a', wpP P md ops w0 Q l ks (pre ++ [(k, v)]) a' → K a') → K (a.put o.dst (k.val v))
section
variable {P : Program} {md : Region.Mode} {ops : Array Oper} {w0 : World} {Q : Act → World → Prop}
abbrev dk : Kd := .eq undef
def fr (a : Act) (l : List Oper) (ks : List Kd) (vs : Nat → Value) : Nat → Act
  | 0 => a
  | n + 1 => (fr a l ks vs n).put (l[n]?.bind (·.dst)) ((ks.getD n dk).val (vs n))
def preN (ks : List Kd) (vs : Nat → Value) (n : Nat) : List (Kd × Value) := (List.range n).map fun i => (ks.getD i dk, vs i)
theorem preN_succ (ks : List Kd) (vs : Nat → Value) (n : Nat) : preN ks vs (n + 1) = preN ks vs n ++ [(ks.getD n dk, vs n)] := by
  unfold preN
  rw [List.range_succ, List.map_append]
  rfl
theorem wpP_at {l : List Oper} {ks : List Kd} {a : Act} (h : wpP P md ops w0 Q l ks [] a) (vs : Nat → Value) : ∀ n, n ≤ l.length → wpP P md ops w0 Q (l.drop n) (ks.drop n) (preN ks vs n) (fr a l ks vs n) := by
  intro n
  induction n with
  | zero => intro _; simpa [preN, fr] using h
  | succ n ih =>
    intro hn
    have h1 := ih (by omega)
    have hlt : n < l.length := by omega
    rw [List.drop_eq_getElem_cons hlt] at h1
    rcases Nat.lt_or_ge n ks.length with hk | hk
    · rw [List.drop_eq_getElem_cons hk] at h1
      obtain ⟨_, _, h2⟩ := h1
      have h3 := h2 (vs n) _ (hid fun a' h => h)
      have e : ks.getD n dk = ks[n] := by simp [List.getD_eq_getElem?_getD, hk]
      rw [preN_succ, e]
      unfold fr
      rw [e, List.getElem?_eq_getElem hlt]
      exact h3
    · rw [List.drop_eq_nil_of_le hk] at h1
      exact h1.elim
theorem fr_size {a : Act} {l : List Oper} {ks : List Kd} {vs : Nat → Value} : ∀ n, (fr a l ks vs n).tmps.size = a.tmps.size
  | 0 => rfl
  | n + 1 => by unfold fr; rw [put_size]; exact fr_size n
theorem fr_defers {a : Act} {l : List Oper} {ks : List Kd} {vs : Nat → Value} : ∀ n, (fr a l ks vs n).defers = a.defers
  | 0 => rfl
  | n + 1 => by unfold fr; rw [put_defers]; exact fr_defers n
theorem fr_ne {a : Act} {l : List Oper} {ks : List Kd} {vs : Nat → Value} {t : Nat} : ∀ n, (∀ j, j < n → ∀ o, l[j]? = some o → o.dst ≠ some t) → (fr a l ks vs n).tmps[t]? = a.tmps[t]?
  | 0, _ => rfl
  | n + 1, h => by
    unfold fr
    rw [put_ne, fr_ne n fun j hj => h j (by omega)]
    cases hl : l[n]? with
    | none => simp
    | some o => simpa using h n (by omega) o hl
theorem fr_eq {a : Act} {l : List Oper} {ks : List Kd} {vs : Nat → Value} {t j : Nat} {o : Oper} (hj : l[j]? = some o) (hd : o.dst = some t) (ht : t < a.tmps.size) : ∀ n, j < n → (∀ i, j < i → i < n → ∀ oi, l[i]? = some oi → oi.dst ≠ some t) →
    (fr a l ks vs n).tmps[t]? = some ((ks.getD j dk).val (vs j))
  | 0, h, _ => absurd h (by omega)
  | n + 1, h, hne => by
    unfold fr
    by_cases hjn : j = n
    · subst hjn
      rw [hj]
      simp only [Option.bind_some, hd]
      exact put_eq (by rw [fr_size]; exact ht)
    · rw [put_ne, fr_eq hj hd ht n (by omega) fun i h1 h2 => hne i h1 (by omega)]
      cases hl : l[n]? with
      | none => simp
      | some oi => simpa using hne n (by omega) (by omega) oi hl

structure InvP (md : Region.Mode) (ops : Array Oper) (ks : List Kd) (a : Act) (w : World) (done : Array Bool) (ak : Act) (wk : World) : Prop where
  size : done.size = ops.size
  closed : ∀ (j : Nat) (oj : Oper), ops[j]? = some oj → done.getD j true = true → ∀ e ∈ oj.after, Region.binds md e = true → done.getD e.on true = true
  later : Later w wk
  defers : ak.defers = a.defers
  sz : ak.tmps.size = a.tmps.size
  vals : ∀ (j : Nat) (o : Oper), ops[j]? = some o → done.getD j true = true → ∃ v, (ks.getD j dk).ok v wk ∧ ∀ t, o.dst = some t → ak.tmps[t]? = some v
  rest : ∀ t, (∀ (j : Nat) o, ops[j]? = some o → done.getD j true = true → o.dst ≠ some t) → ak.tmps[t]? = a.tmps[t]?

/-- the values, as the run has them -/
theorem InvP.values {ks : List Kd} {a : Act} {w : World} {done : Array Bool} {ak : Act} {wk : World} (I : InvP md ops ks a w done ak wk) :
    ∃ vs : Nat → Value, ∀ (j : Nat) (o : Oper), ops[j]? = some o → done.getD j true = true → (ks.getD j dk).ok (vs j) wk ∧ ∀ t, o.dst = some t → ak.tmps[t]? = some (vs j) := by
  have h : ∀ j, ∃ v, ∀ o, ops[j]? = some o → done.getD j true = true → (ks.getD j dk).ok v wk ∧ ∀ t, o.dst = some t → ak.tmps[t]? = some v := by
    intro j
    by_cases hd : done.getD j true = true
    · cases ho : ops[j]? with
      | none => exact ⟨undef, fun o h => by cases h⟩
      | some o =>
        obtain ⟨v, h1, h2⟩ := I.vals j o ho hd
        exact ⟨v, fun o' h' _ => by injection h' with h'; subst h'; exact ⟨h1, h2⟩⟩
    · exact ⟨undef, fun o _ h => absurd h hd⟩
  obtain ⟨vs, hvs⟩ := Classical.skolem.1 h
  exact ⟨vs, hvs⟩
theorem wpAny_pred {l : List Oper} {ks : List Kd} {a : Act} {w : World} {QQ : Exit → Act → World → Prop} (ok : FloatOk md l.toArray []) (hsz : ∀ o ∈ l, ∀ t, o.dst = some t → t < a.tmps.size)
    (hst : ∀ k ∈ ks, k.stable) (h : wpP P md l.toArray w (fun a' u => QQ .normal a' u) l ks [] a) : ∀ (n : Nat) (und : List Nat) (done : Array Bool) (ak : Act) (wk : World), und.length = n →
      (∀ j, j < l.length → done.getD j true = false → j ∈ und) → InvP md l.toArray ks a w done ak wk → wpAny P md l.toArray QQ n done ak wk := by
  have hops : ∀ (i : Nat) (o : Oper), l.toArray[i]? = some o ↔ l[i]? = some o := fun i o => by simp
  have hdst : ∀ (i : Nat) (o : Oper) t, l[i]? = some o → o.dst = some t → t < a.tmps.size := fun i o t hi hd => hsz o (List.mem_of_getElem? hi) t hd
  have stab : ∀ j v u u', Later u u' → (ks.getD j dk).ok v u → (ks.getD j dk).ok v u' := by
    intro j
    rw [List.getD_eq_getElem?_getD]
    cases hk : ks[j]? with
    | none => exact Kd.stable_eq undef
    | some k => exact hst k (List.mem_of_getElem? hk)
  have fin : ∀ (done : Array Bool) (ak : Act) (wk : World), InvP md l.toArray ks a w done ak wk → (∀ j, j < l.toArray.size → done.getD j true = true) → QQ .normal ak wk := by
    intro done ak wk I hd
    obtain ⟨vs, hvs⟩ := I.values
    have h1 := wpP_at h vs l.length (Nat.le_refl _)
    rw [List.drop_eq_nil_of_le (Nat.le_refl _)] at h1
    have h2 := h1 wk I.later
    have e : fr a l ks vs l.length = ak := by
      have e1 : (fr a l ks vs l.length).tmps = ak.tmps := by
        apply Array.ext_getElem?
        intro t
        by_cases hw : ∃ (j : Nat) (o : Oper), l[j]? = some o ∧ o.dst = some t
        · obtain ⟨j, o, hj, ht⟩ := hw
          have hjl : j < l.length := (List.getElem?_eq_some_iff.1 hj).1
          obtain ⟨h3, h4⟩ := hvs j o ((hops j o).2 hj) (hd j (by simpa using hjl))
          rw [fr_eq hj ht (hdst j o t hj ht) l.length hjl fun i h5 _ oi hoi he => by have := ok.dist j i o oi t ((hops j o).2 hj) ((hops i oi).2 hoi) ht he; omega, Kd.val_ok h3]
          exact (h4 t ht).symm
        · have hw' : ∀ (j : Nat) (o : Oper), l[j]? = some o → o.dst ≠ some t := fun j o hj ht => hw ⟨j, o, hj, ht⟩
          rw [fr_ne l.length fun j _ o hj => hw' j o hj]
          exact (I.rest t fun j o hj _ => hw' j o ((hops j o).1 hj)).symm
      have e2 : (fr a l ks vs l.length).defers = ak.defers := by rw [fr_defers, I.defers]
      cases hf : fr a l ks vs l.length
      cases ak
      rw [hf] at e1 e2
      simp only at e1 e2
      rw [e1, e2]
    rw [e] at h2
    exact h2
  intro n
  induction n with
  | zero =>
    intro und done ak wk hu hun I
    obtain rfl := List.eq_nil_of_length_eq_zero hu
    have hd : ∀ j, j < l.toArray.size → done.getD j true = true := fun j hj => by
      cases hc : done.getD j true with
      | true => rfl
      | false => exact absurd (hun j (by simpa using hj) hc) (by simp)
    refine ⟨?_, fin done ak wk I hd⟩
    refine List.eq_nil_iff_forall_not_mem.2 fun j hj => ?_
    obtain ⟨h1, o, ho, _⟩ := mem_ready.1 hj
    rw [hd j (Array.getElem?_eq_some_iff.1 ho).1] at h1
    cases h1
  | succ n ih =>
    intro und done ak wk hu hun I
    refine ⟨fun h0 => fin done ak wk I (all_done ok I.size h0), fun i hi => ?_⟩
    obtain ⟨hiu, oi, hoi, hall⟩ := mem_ready.1 hi
    have hil : l[i]? = some oi := (hops i oi).1 hoi
    have hilt : i < l.length := (List.getElem?_eq_some_iff.1 hil).1
    have him : i ∈ und := hun i hilt hiu
    have hlen : (und.erase i).length = n := by rw [List.length_erase_of_mem him, hu]; rfl
    have hun' : ∀ j, j < l.length → (done.setIfInBounds i true).getD j true = false → j ∈ und.erase i := by
      intro j hj hjd
      by_cases hij : i = j
      · subst hij; rw [getD_set_at] at hjd; cases hjd
      · rw [getD_set_ne true hij] at hjd
        exact (List.mem_erase_of_ne (Ne.symm hij)).2 (hun j hj hjd)
    obtain ⟨vs, hvs⟩ := I.values
    have h1 := wpP_at h vs i (by omega)
    rw [List.drop_eq_getElem_cons hilt] at h1
    have hge : l[i] = oi := by rw [List.getElem?_eq_getElem hilt] at hil; injection hil
    rw [hge] at h1
    have hlook : ∀ d ∈ oi.looksAt l.toArray, ak.tmps[d]? = (fr a l ks vs i).tmps[d]? := by
      intro d hdl
      by_cases hw : ∃ (j : Nat) (o : Oper), l[j]? = some o ∧ o.dst = some d
      · obtain ⟨j, o, hj, ht⟩ := hw
        rcases ok.looks j i o oi d ((hops j o).2 hj) hoi ht hdl with ⟨h2, _⟩ | ⟨h2, _⟩
        · obtain ⟨oj, hoj, e, he, hb, hon⟩ := Region.waitsFor_spec h2
          obtain rfl : oi = oj := Option.some.inj (hoi.symm.trans hoj)
          have hjd : done.getD j true = true := by have := getD_true_of (hall e he hb); rwa [hon] at this
          have hji : j < i := by have := ok.edges i oi hoi e he hb; omega
          obtain ⟨h3, h4⟩ := hvs j o ((hops j o).2 hj) hjd
          rw [fr_eq hj ht (hdst j o d hj ht) i hji fun i' h5 _ oi' hoi' he' => by have := ok.dist j i' o oi' d ((hops j o).2 hj) ((hops i' oi').2 hoi') ht he'; omega, Kd.val_ok h3]
          exact h4 d ht
        · obtain ⟨oj, hoj, e, he, hb, hon⟩ := Region.waitsFor_spec h2
          have hoj' : o = oj := Option.some.inj (((hops j o).2 hj).symm.trans hoj)
          subst hoj'
          have hij : i < j := by have := ok.edges j o hoj e he hb; omega
          have hjd : done.getD j true ≠ true := fun hc => by
            have := I.closed j o hoj hc e he hb
            rw [hon, hiu] at this
            cases this
          rw [fr_ne i fun j' hj' o' ho' he' => by have := ok.dist j j' o o' d ((hops j o).2 hj) ((hops j' o').2 ho') ht he'; omega]
          exact I.rest d fun j' o' ho' hd' he' => by
            have := ok.dist j j' o o' d ((hops j o).2 hj) ho' ht he'
            subst this
            exact hjd hd'
      · have hw' : ∀ (j : Nat) (o : Oper), l[j]? = some o → o.dst ≠ some d := fun j o hj ht => hw ⟨j, o, hj, ht⟩
        rw [fr_ne i fun j _ o hj => hw' j o hj]
        exact I.rest d fun j o hj _ => hw' j o ((hops j o).1 hj)
    have hsel := Region.noSelect_spec ok.sel
    rcases Nat.lt_or_ge i ks.length with hk | hk
    · rw [List.drop_eq_getElem_cons hk] at h1
      obtain ⟨hw1, hstep, _⟩ := h1
      have ek : ks.getD i dk = ks[i] := by simp [List.getD_eq_getElem?_getD, hk]
      have hkn : known md (preN ks vs i) oi wk := by
        intro e he hb kv hkv
        have hon : e.on < i := ok.edges i oi hoi e he hb
        obtain rfl : kv = (ks.getD e.on dk, vs e.on) := by
          unfold preN at hkv
          rw [List.getElem?_map, List.getElem?_range hon] at hkv
          exact (Option.some.inj hkv).symm
        have hol : l[e.on]? = some (l[e.on]'(by omega)) := List.getElem?_eq_getElem _
        obtain ⟨h3, _⟩ := hvs e.on _ ((hops _ _).2 hol) (getD_true_of (hall e he hb))
        show (ks.getD e.on dk).ok ((ks.getD e.on dk).val (vs e.on)) wk
        rw [Kd.val_ok h3]
        exact h3
      have go : ∀ ds v w', (∃ v', ({ fr a l ks vs i with defers := ds } : Act).put oi.dst v = (fr a l ks vs i).put oi.dst v' ∧ Later wk w' ∧ (ks[i]).ok v' w') →
          wpAny P md l.toArray QQ n (done.setIfInBounds i true) (({ ak with defers := ds } : Act).put oi.dst v) w' := by
        rintro ds v w' ⟨v', hput, hlw, hok⟩
        have hds : ds = (fr a l ks vs i).defers := by
          have := congrArg Act.defers hput
          rwa [put_defers, put_defers] at this
        have hvv : ∀ t, oi.dst = some t → v = v' := by
          intro t ht
          have h5 := congrArg (fun x : Act => x.tmps[t]?) hput
          simp only [ht] at h5
          have hts := hdst i oi t hil ht
          rw [put_eq (by show t < (fr a l ks vs i).tmps.size; rw [fr_size]; exact hts), put_eq (by rw [fr_size]; exact hts)] at h5
          exact Option.some.inj h5
        refine ih (und.erase i) _ _ w' hlen hun' ⟨by simpa using I.size, ?_, I.later.trans hlw, ?_, ?_, ?_, ?_⟩
        · intro j oj hoj hjd e he hb
          rcases done_set hjd with rfl | hjd
          · obtain rfl : oi = oj := Option.some.inj (hoi.symm.trans hoj)
            exact done_mono (getD_true_of (hall e he hb))
          · exact done_mono (I.closed j oj hoj hjd e he hb)
        · rw [put_defers]
          show ds = a.defers
          rw [hds, fr_defers]
        · rw [put_size]; exact I.sz
        · intro j o ho hjd
          by_cases hij : j = i
          · subst hij
            obtain rfl : oi = o := Option.some.inj (hoi.symm.trans ho)
            refine ⟨v', by rw [ek]; exact hok, fun t ht => ?_⟩
            rw [ht, ← hvv t ht]
            exact put_eq (by show t < ak.tmps.size; rw [I.sz]; exact hdst j oi t hil ht)
          · have hjd' : done.getD j true = true := by
              rcases done_set hjd with rfl | h6
              · exact absurd rfl hij
              · exact h6
            obtain ⟨v2, h3, h4⟩ := I.vals j o ho hjd'
            refine ⟨v2, stab j v2 wk w' hlw h3, fun t ht => ?_⟩
            rw [put_ne (fun he => hij (ok.dist j i o oi t ho hoi ht he))]
            exact h4 t ht
        · intro t ht
          rw [put_ne (ht i oi hoi getD_set_at)]
          exact I.rest t fun j o hj hjd => ht j o hj (done_mono hjd)
      unfold wpOp
      simp only [hoi]
      rw [wanted_same hlook, if_pos hw1]
      exact .inl (wp_over (K := fun a' u' => ∃ v, a' = (fr a l ks vs i).put oi.dst v ∧ Later wk u' ∧ (ks[i]).ok v u') (exec_same (fun cs b => hsel i oi cs b hoi) hlook) (by rw [I.defers, fr_defers]) (fun ds v w' h => go ds v w' h)
        (hstep wk I.later hkn _ (hid fun v a' u' e1 e2 e3 => ⟨v, e1, e2, e3⟩)))
    · rw [List.drop_eq_nil_of_le hk] at h1
      exact h1.elim
/-- THE REGION -/
theorem wp_region_pred {id : Nat} {QQ : Exit → Act → World → Prop} {a : Act} {w : World} {l : List Oper} (ks : List Kd) (hm : P.follows .mixedOrders = true) (hB : (Region.floatB .any l.toArray [] && l.all fun o => match o.dst with | some t => decide (t < a.tmps.size) | none => true) = true)
    (hst : ∀ k ∈ ks, k.stable) (h : wpP P .any l.toArray w (fun a' u => QQ .normal a' u) l ks [] a) : (Code.region id l.toArray true).wp P QQ a w := by
  rw [Bool.and_eq_true] at hB
  obtain ⟨hB, hD⟩ := hB
  refine wp_region_any hm ?_
  have hund : ∀ j, j < l.toArray.size → (Array.replicate l.toArray.size false).getD j true = false := fun j hj => getD_in (by simpa using hj) (getD_replicate_false _ _)
  refine wpAny_pred (floatOk hB) (fun o ho t ht => ?_) hst h l.toArray.size (List.range l.toArray.size) _ a w.drew (by simp) (fun j hj _ => List.mem_range.2 (by simpa using hj)) ⟨by simp, fun j oj hj hdn => ?_, (Later.refl _).drew, rfl, rfl, fun j o hj hdn => ?_, fun _ _ => rfl⟩
  · have := List.all_eq_true.1 hD o ho
    rw [ht] at this
    simpa using this
  · rw [hund j (Array.getElem?_eq_some_iff.1 hj).1] at hdn; cases hdn
  · rw [hund j (Array.getElem?_eq_some_iff.1 hj).1] at hdn; cases hdn
end
end Go.Proofs.Ytnidpncacgknkaa
