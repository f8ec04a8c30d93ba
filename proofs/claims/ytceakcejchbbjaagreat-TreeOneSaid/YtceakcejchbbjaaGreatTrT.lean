/-
  What tree.put leaves of a tree. No program in sight.
-/
import Derived.Test.YtceakcejchbbjaaGreatTrS
namespace Go.Proofs.YtceakcejchbbjaaGreat
open Go.RowKit

/-- What tree.put leaves: all as it was, but for a pair; or two parts, a key between them. -/
def PutAt (g : Sg) (M M' : Nat → Option Sec) (root : Bool) (d a : Nat) (l : List Pair9) (S : List Nat) (key v : Bs) : Option (Bs × Nat) → Prop
  | none => ∃ S', Shape (g.cur M') root d a (insL l key v) S' ∧ Grown g M M' S S' d (2 * d + 1) ∧ (lookL l key ≠ none → ∃ x s, x ∈ S ∧ M' = putS M x s)
  | some (k', b) => lookL l key = none ∧ ∃ l1 l2 S1 S2, insL l key v = l1 ++ l2 ∧ k'.length = 32 ∧ Shape (g.cur M') false d a l1 S1 ∧ Shape (g.cur M') false d b l2 S2 ∧ (∀ p, p ∈ l1 → ltB p.1 k' = true) ∧ (∀ p, p ∈ l2 → ltB p.1 k' = false) ∧ Grown g M M' S (S1 ++ S2) (d + 1) (2 * d + 2)
theorem PutAt.grown {g : Sg} {M M' : Nat → Option Sec} {root : Bool} {d a : Nat} {l : List Pair9} {S : List Nat} {key v : Bs} : ∀ {o : Option (Bs × Nat)}, PutAt g M M' root d a l S key v o → ∃ S', Grown g M M' S S' (d + 1) (2 * d + 2)
  | none, h => by obtain ⟨S', _, h, _⟩ := h; exact ⟨S', h.mono (by omega) (by omega)⟩
  | some (k', b), h => by obtain ⟨_, l1, l2, S1, S2, _, _, _, _, _, _, h⟩ := h; exact ⟨_, h⟩
theorem LeafOk.pairs {l : List Pair9} (h : LeafOk (l.map (·.1)) (l.map (·.2))) : ∀ p, p ∈ l → p.1.length = 32 ∧ p.2.length = 16 := fun p hp => ⟨h.k _ (List.mem_map.2 ⟨p, hp, rfl⟩), h.v _ (List.mem_map.2 ⟨p, hp, rfl⟩)⟩
theorem leafOk_mk {l : List Pair9} (h : ∀ p, p ∈ l → p.1.length = 32 ∧ p.2.length = 16) (hm : l.length ≤ 10) : LeafOk (l.map (·.1)) (l.map (·.2)) :=
  ⟨fun x hx => by obtain ⟨p, hp, rfl⟩ := List.mem_map.1 hx; exact (h p hp).1, fun x hx => by obtain ⟨p, hp, rfl⟩ := List.mem_map.1 hx; exact (h p hp).2, by simp, by simpa using hm⟩
theorem Shape.leaf {C : Nat → Sec} {root : Bool} {a : Nat} {l : List Pair9} (ha : a < 4294967296) (h : ∀ p, p ∈ l → p.1.length = 32 ∧ p.2.length = 16) (hm : l.length ≤ 10) (hc : C a = encLeaf (l.map (·.1)) (l.map (·.2))) (hn : (if root then 1 else 5) ≤ l.length) (hs : (l.map (·.1)).Pairwise (fun x y => ltB x y = true)) : Shape C root 0 a l [a] :=
  ⟨rfl, ha, leafOk_mk h hm, hc, hn, hs⟩
theorem insL_pairs {l : List Pair9} {key v : Bs} (h : ∀ p, p ∈ l → p.1.length = 32 ∧ p.2.length = 16) (hk : key.length = 32) (hv : v.length = 16) : ∀ p, p ∈ insL l key v → p.1.length = 32 ∧ p.2.length = 16 := fun p hp => by
  rcases insL_mem hp with rfl | q
  · exact ⟨hk, hv⟩
  · exact h p q
section
variable {g : Sg} {M M1 : Nat → Option Sec} {S : List Nat} {root : Bool} {a d : Nat} {l : List Pair9} {key v : Bs}
theorem cur_put_eq (g : Sg) (M : Nat → Option Sec) (a : Nat) (x : Sec) : g.cur (putS M a x) a = x := by rw [cur_put, if_pos rfl]
theorem cur_put_ne (g : Sg) (M : Nat → Option Sec) {a i : Nat} (x : Sec) (h : i ≠ a) : g.cur (putS M a x) i = g.cur M i := by rw [cur_put, if_neg h]
/-- A key that is there, at a leaf. -/
theorem putAt_there (hs : Shape (g.cur M) root 0 a l S) (hh : Held9 g M S) (ho : MOk M g.h) (hk : key.length = 32) (hv : v.length = 16) (ht : hasK (l.map (·.1)) key = true) : PutAt g M (putS M a (encLeaf (l.map (·.1)) ((l.map (·.2)).set (posK (l.map (·.1)) key) v))) root 0 a l S key v none := by
  have hlow := hh.low a hs.mem.1
  obtain ⟨rfl, ha, hok, hc, hn, hp⟩ := hs
  have hl : (insL l key v).length = l.length := by rw [insL_length, if_pos ht]
  refine ⟨[a], Shape.leaf ha (insL_pairs hok.pairs hk hv) (by rw [hl]; simpa using hok.most) ?_ (by rw [hl]; exact hn) (insL_sorted hp), hh.refl.put ho (by simp) hlow.1 hlow.2 _, fun _ => ⟨a, _, by simp, rfl⟩⟩
  rw [cur_put_eq, insL_keys, insL_vals, if_pos ht, if_pos ht]
/-- A new key, at a leaf with room. -/
theorem putAt_room (hs : Shape (g.cur M) root 0 a l S) (hh : Held9 g M S) (ho : MOk M g.h) (hk : key.length = 32) (hv : v.length = 16) (ht : hasK (l.map (·.1)) key = false) (hr : (l.map (·.1)).length ≤ 9) : PutAt g M (putS M a (encLeaf (insAt (l.map (·.1)) (posK (l.map (·.1)) key) key) (insAt (l.map (·.2)) (posK (l.map (·.1)) key) v))) root 0 a l S key v none := by
  have hlow := hh.low a hs.mem.1
  obtain ⟨rfl, ha, hok, hc, hn, hp⟩ := hs
  have hl : (insL l key v).length = l.length + 1 := by rw [insL_length, ht]; simp
  rw [List.length_map] at hr
  refine ⟨[a], Shape.leaf ha (insL_pairs hok.pairs hk hv) (by omega) ?_ (by rw [hl]; omega) (insL_sorted hp), hh.refl.put ho (by simp) hlow.1 hlow.2 _, fun _ => ⟨a, _, by simp, rfl⟩⟩
  rw [cur_put_eq, insL_keys, insL_vals, ht]
  simp
theorem mem_take_of {α : Type} {l : List α} {n : Nat} {x : α} (h : x ∈ l.take n) : x ∈ l := List.mem_of_mem_take h
/-- A new key, at a leaf without room. -/
theorem putAt_part (hs : Shape (g.cur M) root 0 a l S) (hh : Held9 g M S) (ho : MOk M g.h) (hl1 : (g.cur M 1).length = 512) (h1 : 1 < g.h) (h2 : g.h ≤ 4096) (hk : key.length = 32) (hv : v.length = 16) (ht : hasK (l.map (·.1)) key = false) (hr : (l.map (·.1)).length = 10) {K V : List Bs} (hK : insAt (l.map (·.1)) (posK (l.map (·.1)) key) key = K) (hV : insAt (l.map (·.2)) (posK (l.map (·.1)) key) v = V)
    {k' : Bs} (hk' : K[5]? = some k') {s : Nat} (hs4 : 4 ≤ s) (hsh : s < g.h) (hT : g.T M s = false) (ho1 : MOk (takM g M s) g.h) (ho2 : MOk (putS (takM g M s) a (encLeaf (K.take 5) (V.take 5))) g.h) : PutAt g M (putS (putS (takM g M s) a (encLeaf (K.take 5) (V.take 5))) s (encLeaf (K.drop 5) (V.drop 5))) root 0 a l S key v (some (k', s)) := by
  have hlow := hh.low a hs.mem.1
  have hTa := hh.T a hs.mem.1
  obtain ⟨rfl, ha, hok, hc, hn, hp⟩ := hs
  rw [List.length_map] at hr
  have hl : (insL l key v).length = 11 := by rw [insL_length, ht]; simp [hr]
  have hK2 : (insL l key v).map (·.1) = K := by rw [insL_keys, ht]; simpa using hK
  have hV2 : (insL l key v).map (·.2) = V := by rw [insL_vals, ht]; simpa using hV
  have hso := insL_sorted (key := key) (v := v) hp
  have hpr := insL_pairs hok.pairs hk hv
  have hlk : lookL l key = none := by rw [lookL_leaf, ht]; simp
  obtain ⟨L, hL⟩ : ∃ L, insL l key v = L := ⟨_, rfl⟩
  rw [hL] at hl hK2 hV2 hso
  simp only [hL] at hpr
  have has : a ≠ s := by rintro rfl; rw [hTa] at hT; simp at hT
  subst hK2 hV2
  refine ⟨hlk, L.take 5, L.drop 5, [a], [s], by rw [List.take_append_drop]; exact hL, ?_, ?_, ?_, ?_, ?_, ?_⟩
  · obtain ⟨p, hp, rfl⟩ := List.mem_map.1 (List.mem_of_getElem? hk')
    exact (hpr p hp).1
  · refine Shape.leaf ha (fun p q => hpr p (List.mem_of_mem_take q)) (by simp; omega) ?_ (by simp; omega) ?_
    · rw [cur_put_ne _ _ _ has, cur_put_eq, List.map_take, List.map_take]
    · rw [List.map_take]; exact hso.sublist (List.take_sublist _ _)
  · refine Shape.leaf (by omega) (fun p q => hpr p (List.mem_of_mem_drop q)) (by simp; omega) ?_ (by simp; omega) ?_
    · rw [cur_put_eq, List.map_drop, List.map_drop]
    · rw [List.map_drop]; exact hso.sublist (List.drop_sublist _ _)
  · intro p hp
    obtain ⟨i, hi⟩ := List.mem_iff_getElem?.1 hp
    have hi5 : i < 5 := by
      have := (List.getElem?_eq_some_iff.1 hi).1
      simp at this; omega
    rw [List.getElem?_take_of_lt hi5] at hi
    obtain ⟨hj, ej⟩ := List.getElem?_eq_some_iff.1 hk'
    obtain ⟨hi', ei⟩ := List.getElem?_eq_some_iff.1 hi
    have := List.pairwise_iff_getElem.1 hso i 5 (by simpa using hi') hj hi5
    rw [ej] at this
    rw [← ei]
    simpa using this
  · intro p hp
    obtain ⟨i, hi⟩ := List.mem_iff_getElem?.1 hp
    rw [List.getElem?_drop] at hi
    obtain ⟨hj, ej⟩ := List.getElem?_eq_some_iff.1 hk'
    obtain ⟨hi', ei⟩ := List.getElem?_eq_some_iff.1 hi
    cases i with
    | zero =>
      have : p.1 = k' := by rw [← ei, ← ej]; simp
      rw [this]; exact ltB_irrefl _
    | succ i =>
      have := List.pairwise_iff_getElem.1 hso 5 (5 + (i + 1)) hj (by simpa using hi') (by omega)
      rw [ej] at this
      have e : p.1 = (L.map (·.1))[5 + (i + 1)]'(by simpa using hi') := by rw [← ei]; simp
      rw [e]
      exact ltB_asymm this
  · have t1 := hh.refl.take ho hl1 h1 h2 hs4 hsh hT
    have t2 := t1.put ho1 (a := a) (by simp) hlow.1 hlow.2 (encLeaf ((L.map (·.1)).take 5) ((L.map (·.2)).take 5))
    have t3 := t2.put ho2 (a := s) (by simp) hs4 hsh (encLeaf ((L.map (·.1)).drop 5) ((L.map (·.2)).drop 5))
    exact t3.perm (List.Perm.swap _ _ _)
end

/-- Where a key is looked for below an inner node, and what the child's change makes of the node. -/
structure AtKid (g : Sg) (M : Nat → Option Sec) (root : Bool) (d a : Nat) (l : List Pair9) (S : List Nat) (key v : Bs) (ks : List Bs) (ds : List Nat) (kid : Nat) (lc : List Pair9) (Sc : List Nat) : Prop where
  ok : InnerOk ks ds
  enc : g.cur M a = encInner ks ds
  at_ : ds[chK ks key]? = some kid
  shape : Shape (g.cur M) false d kid lc Sc
  held : Held9 g M Sc
  whole : ∀ M1, PutAt g M M1 false d kid lc Sc key v none → PutAt g M M1 root (d + 1) a l S key v none
  len : ∀ M1 k' b, PutAt g M M1 false d kid lc Sc key v (some (k', b)) → k'.length = 32 ∧ b < 4294967296
  room : ∀ M1 k' b, PutAt g M M1 false d kid lc Sc key v (some (k', b)) → MOk M1 g.h → ks.length ≤ 12 → PutAt g M (putS M1 a (encInner (insAt ks (chK ks key) k') (insAt ds (chK ks key + 1) b))) root (d + 1) a l S key v none
  part : ∀ M1 k' b, PutAt g M M1 false d kid lc Sc key v (some (k', b)) → MOk M1 g.h → (g.cur M1 1).length = 512 → 1 < g.h → g.h ≤ 4096 → ks.length = 13 → ∀ k7 s, (insAt ks (chK ks key) k')[7]? = some k7 → 4 ≤ s → s < g.h → g.T M1 s = false → MOk (takM g M1 s) g.h → MOk (putS (takM g M1 s) a (encInner ((insAt ks (chK ks key) k').take 7) ((insAt ds (chK ks key + 1) b).take 8))) g.h →
    PutAt g M (putS (putS (takM g M1 s) a (encInner ((insAt ks (chK ks key) k').take 7) ((insAt ds (chK ks key + 1) b).take 8))) s (encInner ((insAt ks (chK ks key) k').drop 8) ((insAt ds (chK ks key + 1) b).drop 8))) root (d + 1) a l S key v (some (k7, s))
theorem chK_le (ks : List Bs) (key : Bs) : chK ks key ≤ ks.length := by
  unfold chK hasK
  split
  · next h => have := (List.getElem?_eq_some_iff.1 (of_decide_eq_true h)).1; omega
  · exact posK_le _ _
theorem innerOk_ins {ks : List Bs} {ds : List Nat} (h : InnerOk ks ds) {i : Nat} (hi : i ≤ ks.length) {k' : Bs} (hk : k'.length = 32) {b : Nat} (hb : b < 4294967296) : (∀ x, x ∈ insAt ks i k' → x.length = 32) ∧ (∀ x, x ∈ insAt ds (i + 1) b → x < 4294967296) ∧ (insAt ks i k').length = ks.length + 1 ∧ (insAt ds (i + 1) b).length = ks.length + 2 := by
  refine ⟨fun x q => ?_, fun x q => ?_, insAt_length _ _ _ hi, ?_⟩
  · rcases mem_insAt q with rfl | r
    · exact hk
    · exact h.k x r
  · rcases mem_insAt q with rfl | r
    · exact hb
    · exact h.d x r
  · rw [insAt_length _ _ _ (by rw [h.n]; omega), h.n]
theorem Grown.cur {g : Sg} {M M1 : Nat → Option Sec} {S S' : List Nat} {n m : Nat} (h : Grown g M M1 S S' n m) {i : Nat} (hi : i ∉ S') (h1 : i ≠ 1) : g.cur M1 i = g.cur M i := by
  unfold Sg.cur; rw [h.keep i hi h1]
theorem Shape.at {g : Sg} {M : Nat → Option Sec} {root : Bool} {d a : Nat} {l : List Pair9} {S : List Nat} {key v : Bs} (hs : Shape (g.cur M) root (d + 1) a l S) (hh : Held9 g M S) : ∃ ks ds kid lc Sc, AtKid g M root d a l S key v ks ds kid lc Sc := by
  have hlow := hh.low a hs.mem.1
  obtain ⟨ha, ks, ds, S', rfl, hok, hc, hn, hp, hkids⟩ := hs
  obtain ⟨kid, la, lc, lb, Sa, Sc, Sb, e1, rfl, rfl, hsc, hla, hlb, hf, t1, t2⟩ := hkids.turn (key := key) hp
  have hh2 : Held9 g M ((a :: Sa) ++ (Sc ++ Sb)) := hh
  have hI := chK_le ks key
  have hlc : Held9 g M Sc := ⟨(List.nodup_append.1 (List.nodup_append.1 hh2.nd).2.1).1, fun s q => hh.low s (by simp [q]), fun s q => hh.T s (by simp [q])⟩
  -- what the child's change leaves alone
  have out : ∀ {M1 : Nat → Option Sec} {Sc' : List Nat} {n m : Nat}, Grown g M M1 Sc Sc' n m → ∀ i, (i = a ∨ i ∈ Sa ∨ i ∈ Sb) → i ∉ Sc' ∧ g.cur M1 i = g.cur M i := by
    intro M1 Sc' n m hG i hi
    have hnd := (hG.lift hh2).nd
    have hout : i ∉ Sc' := by
      have n1 := List.nodup_append.1 hnd
      have n2 := List.nodup_append.1 n1.2.1
      intro q
      rcases hi with rfl | hi | hi
      · exact n1.2.2 i (by simp) i (by simp [q]) rfl
      · exact n1.2.2 i (by simp [hi]) i (by simp [q]) rfl
      · exact n2.2.2 i q i hi rfl
    have hi4 : 4 ≤ i := by
      rcases hi with rfl | hi | hi
      · exact hlow.1
      · exact (hh.low i (by simp [hi])).1
      · exact (hh.low i (by simp [hi])).1
    exact ⟨hout, hG.cur hout (by omega)⟩
  have ana : ∀ i, (i ∈ Sa ∨ i ∈ Sb) → i ≠ a := by
    rintro i hi rfl
    have := (List.nodup_cons.1 hh.nd).1
    rcases hi with q | q <;> simp [q] at this
  refine ⟨ks, ds, kid, lc, Sc, hok, hc, e1, hsc, hlc, ?_, ?_, ?_, ?_⟩
  · rintro M1 ⟨Sc', hq, hG, hlk⟩
    have ho := out hG
    refine ⟨(a :: Sa) ++ (Sc' ++ Sb), ⟨ha, ks, ds, Sa ++ (Sc' ++ Sb), rfl, hok, (ho a (.inl rfl)).2.trans hc, hn, hp, ?_⟩, (hG.lift hh2).mono (by omega) (by omega), fun hn => ?_⟩
    · rw [insL_mid hla hlb]
      exact t1 _ _ _ (fun k l2 S2 hP hS => hP.keep fun s q => (ho s (.inr (hS s q))).2) hq hf.ins
    · rw [lookL_mid hla hlb] at hn
      obtain ⟨x, s, hx, e⟩ := hlk hn
      exact ⟨x, s, by simp [hx], e⟩
  · rintro M1 k' b ⟨_, l1, l2, S1, S2, _, hk', _, h2, _⟩
    exact ⟨hk', h2.mem.2⟩
  · rintro M1 k' b ⟨hlk, l1, l2, S1, S2, el, hk', q1, q2, b1, b2, hG⟩ ho1 hroom
    have ho := out hG
    obtain ⟨i1, i2, i3, i4⟩ := innerOk_ins hok hI hk' q2.mem.2
    have hG2 := (hG.lift hh2).put ho1 (a := a) (by simp) hlow.1 hlow.2 (encInner (insAt ks (chK ks key) k') (insAt ds (chK ks key + 1) b))
    have na : ∀ s, s ∈ S1 ++ S2 → s ≠ a := by rintro s q rfl; exact (ho s (.inl rfl)).1 q
    have hf2 : Fits ks key (l1 ++ l2) := by rw [← el]; exact hf.ins
    have hfk := hf2.key q1.ne q2.ne b1 b2
    refine ⟨(a :: Sa) ++ ((S1 ++ S2) ++ Sb), ⟨ha, _, _, Sa ++ ((S1 ++ S2) ++ Sb), rfl, ⟨i1, i2, by rw [i3, i4], by omega⟩, cur_put_eq _ _ _ _, by rw [i3]; omega, pair_ins hp hfk, ?_⟩, hG2.mono (by omega) (by omega), fun hn => absurd ((lookL_mid hla hlb).trans hlk) hn⟩
    rw [insL_mid hla hlb, el]
    exact t2 _ _ _ _ _ _ _ (fun k l2 S2 hP hS => hP.keep fun s q => by rw [cur_put_ne _ _ _ (ana s (hS s q))]; exact (ho s (.inr (hS s q))).2) (q1.keep fun s q => cur_put_ne _ _ _ (na s (by simp [q]))) (q2.keep fun s q => cur_put_ne _ _ _ (na s (by simp [q]))) b1 b2 hf2 hfk
  · rintro M1 k' b ⟨hlk, l1, l2, S1, S2, el, hk', q1, q2, b1, b2, hG⟩ ho1 hl1 h1 h2 hr k7 s h7 hs4 hsh hT ho2 ho3
    have ho := out hG
    obtain ⟨i1, i2, i3, i4⟩ := innerOk_ins hok hI hk' q2.mem.2
    have hL := hG.lift hh2
    have hHL := hL.held hh2
    have hG1 := hL.take ho1 hl1 h1 h2 hs4 hsh hT
    have hG2 := hG1.put ho2 (a := a) (by simp) hlow.1 hlow.2 (encInner ((insAt ks (chK ks key) k').take 7) ((insAt ds (chK ks key + 1) b).take 8))
    have hG3 := hG2.put ho3 (a := s) (by simp) hs4 hsh (encInner ((insAt ks (chK ks key) k').drop 8) ((insAt ds (chK ks key + 1) b).drop 8))
    have ns : ∀ i, i ∈ (a :: Sa) ++ ((S1 ++ S2) ++ Sb) → i ≠ s ∧ i ≠ 1 := by
      intro i q
      refine ⟨?_, by have := (hHL.low i q).1; omega⟩
      rintro rfl
      rw [hHL.T i q] at hT; simp at hT
    have na : ∀ i, i ∈ S1 ++ S2 → i ≠ a := by rintro i q rfl; exact (ho i (.inl rfl)).1 q
    have hcur : ∀ i, i ∈ Sa ++ ((S1 ++ S2) ++ Sb) → i ≠ a → g.cur (putS (putS (takM g M1 s) a (encInner ((insAt ks (chK ks key) k').take 7) ((insAt ds (chK ks key + 1) b).take 8))) s (encInner ((insAt ks (chK ks key) k').drop 8) ((insAt ds (chK ks key + 1) b).drop 8))) i = g.cur M1 i := by
      intro i q qa
      have := ns i (List.mem_cons_of_mem _ q)
      rw [cur_put_ne _ _ _ this.1, cur_put_ne _ _ _ qa, cur_tak _ _ this.2]
    have hf2 : Fits ks key (l1 ++ l2) := by rw [← el]; exact hf.ins
    have hfk := hf2.key q1.ne q2.ne b1 b2
    have hps := pair_ins hp hfk
    have hK := t2 (fun k l S => Shape (g.cur (putS (putS (takM g M1 s) a (encInner ((insAt ks (chK ks key) k').take 7) ((insAt ds (chK ks key + 1) b).take 8))) s (encInner ((insAt ks (chK ks key) k').drop 8) ((insAt ds (chK ks key + 1) b).drop 8)))) false d k l S) b k' l1 S1 l2 S2
      (fun k l2 S2 hP hS => hP.keep fun i q => by
        rw [hcur i (by rcases hS i q with r | r <;> simp [r]) (ana i (hS i q))]; exact (ho i (.inr (hS i q))).2)
      (q1.keep fun i q => hcur i (by simp [q]) (na i (by simp [q]))) (q2.keep fun i q => hcur i (by simp [q]) (na i (by simp [q]))) b1 b2 hf2 hfk
    obtain ⟨L1, T1, L2, T2, f1, f2, k1, k2, c1, c2⟩ := hK.part hps h7
    have has : a ≠ s := (ns a (by simp)).1
    refine ⟨(lookL_mid hla hlb).trans hlk, L1, L2, a :: T1, s :: T2, by rw [insL_mid hla hlb, el, f1], i1 _ (List.mem_of_getElem? h7), ⟨ha, _, _, T1, rfl, ⟨fun x q => i1 x (List.mem_of_mem_take q), fun x q => i2 x (List.mem_of_mem_take q), by rw [List.length_take, List.length_take, i3, i4]; omega, by rw [List.length_take]; omega⟩, ?_, ?_, hps.sublist (List.take_sublist _ _), k1⟩,
      ⟨by omega, _, _, T2, rfl, ⟨fun x q => i1 x (List.mem_of_mem_drop q), fun x q => i2 x (List.mem_of_mem_drop q), by rw [List.length_drop, List.length_drop, i3, i4]; omega, by rw [List.length_drop, i3]; omega⟩, ?_, ?_, hps.sublist (List.drop_sublist _ _), k2⟩, c1, c2, ?_⟩
    · rw [cur_put_ne _ _ _ has, cur_put_eq]
    · rw [List.length_take, i3, hr]; decide
    · rw [cur_put_eq]
    · rw [List.length_drop, i3, hr]; decide
    · refine (hG3.mono (by omega) (by omega)).perm ?_
      have e : s :: ((a :: Sa) ++ ((S1 ++ S2) ++ Sb)) = s :: a :: (T1 ++ T2) := by rw [← f2]; rfl
      rw [e]
      refine (List.Perm.swap _ _ _).trans (List.Perm.cons _ ?_)
      exact List.perm_middle.symm

end Go.Proofs.YtceakcejchbbjaaGreat
