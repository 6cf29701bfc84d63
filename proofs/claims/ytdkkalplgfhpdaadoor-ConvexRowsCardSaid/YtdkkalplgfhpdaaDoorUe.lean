import Derived.Test.YtdkkalplgfhpdaaDoorUd
import Derived.Test.YtdkkalplgfhpdaaDoorEngZp
import Derived.Test.YtdkkalplgfhpdaaDoorGo
set_option linter.unusedSimpArgs false
set_option linter.unusedVariables false
set_option linter.unusedSectionVars false
set_option maxRecDepth 20000
namespace Go.Proofs.YtdkkalplgfhpdaaDoor
attribute [local irreducible] QOp aL aC qL
theorem Q_lookupW {P : Program} {st : St} {d : Option Tmp} {ty : TypeId} {pos : String} {af : Array Edge} {g : Option (Nat × Bool)} {x y : Operand} {T : TypeId} {id : Nat} {l : List (Int × Int)} {k v : Int} (hx : st.ev x = .own id) (ho : st.objs[id]? = some (.mp (mi l))) (hy : st.ev y = .val (.int .i64 k)) (ht : MpT P T) (hv : mgd l k = v) :
    QOp P ⟨d, .lookup T x y false, ty, pos, af, g⟩ st (.val (.int .i64 v)) := by
  subst hv
  exact Q_lookup hx ho hy ht
def wyF (n : Nat) (S : List Nat) : Nat → Nat → Nat
  | 0, _ => 0
  | f + 1, s => if s = 0 then 1 else if s ∈ S then sumTo (fun p => if s.testBit p = true then wyF n S f (s - 2 ^ p) else 0) n else 0
theorem wyF_s (n : Nat) (S : List Nat) (f s : Nat) : wyF n S (f + 1) s = if s = 0 then 1 else if s ∈ S then sumTo (fun p => if s.testBit p = true then wyF n S f (s - 2 ^ p) else 0) n else 0 := rfl
def wyN (n : Nat) (S : List Nat) (s : Nat) : Nat := wyF n S (s + 1) s
theorem wyF_fuel {n : Nat} {S : List Nat} : ∀ (f s f' : Nat), s < f → s < f' → wyF n S f s = wyF n S f' s
  | 0, _, _, h, _ => absurd h (Nat.not_lt_zero _)
  | _ + 1, _, 0, _, h => absurd h (Nat.not_lt_zero _)
  | f + 1, s, f' + 1, h, h' => by
    rw [wyF_s, wyF_s]
    split
    · rfl
    · split
      · refine sumTo_congr fun p _ => ?_
        split
        · rename_i hb
          have h1 := pow_le_bit hb
          have h2 : 0 < 2 ^ p := Nat.pow_pos (by decide)
          exact wyF_fuel f (s - 2 ^ p) f' (by omega) (by omega)
        · rfl
      · rfl
theorem wyN_eq (n : Nat) (S : List Nat) (s : Nat) : wyN n S s = if s = 0 then 1 else if s ∈ S then sumTo (fun p => if s.testBit p = true then wyN n S (s - 2 ^ p) else 0) n else 0 := by
  unfold wyN
  rw [wyF_s]
  split
  · rfl
  · split
    · refine sumTo_congr fun p _ => ?_
      split
      · rename_i hb
        have h1 := pow_le_bit hb
        have h2 : 0 < 2 ^ p := Nat.pow_pos (by decide)
        exact wyF_fuel _ _ _ (by omega) (by omega)
      · rfl
    · rfl
def bcT (s : Nat) : Nat := (List.range 10).countP s.testBit
theorem bcT_sub {s p : Nat} (hp : p < 10) (h : s.testBit p = true) : bcT (s - 2 ^ p) + 1 = bcT s :=
  cp_one hp (fun t _ ht => by rw [sub_bit h]; simp [ht]) (by rw [sub_bit h]; simp) h
theorem bcT_le (s : Nat) : bcT s ≤ 10 := by
  have := List.countP_le_length (p := s.testBit) (l := List.range 10)
  rwa [List.length_range] at this
theorem wyF_le {n : Nat} {S : List Nat} (hn : n ≤ 10) : ∀ f s, wyF n S f s ≤ 10 ^ bcT s
  | 0, _ => Nat.zero_le _
  | f + 1, s => by
    rw [wyF_s]
    split
    · exact Nat.pow_pos (by decide)
    · split
      · cases hb : bcT s with
        | zero =>
          rw [sumTo_zero]
          · exact Nat.zero_le _
          · intro p hp
            rw [if_neg]
            intro hq
            have := bcT_sub (by omega) hq
            omega
        | succ b =>
          refine Nat.le_trans (sumTo_mono (g' := fun _ => 10 ^ b) fun p hp => ?_) (Nat.le_trans (sumTo_le (M := 10 ^ b) (fun _ => Nat.le_refl _) n) ?_)
          · split
            · rename_i hq
              have := bcT_sub (by omega) hq
              have e : bcT (s - 2 ^ p) = b := by omega
              rw [← e]
              exact wyF_le hn f _
            · exact Nat.zero_le _
          · rw [Nat.pow_succ, Nat.mul_comm]
            exact Nat.mul_le_mul_left _ hn
      · exact Nat.zero_le _
theorem wyN_le {n : Nat} (S : List Nat) (hn : n ≤ 10) (s : Nat) : wyN n S s ≤ 10000000000 :=
  Nat.le_trans (wyF_le hn _ _) (Nat.le_trans (Nat.pow_le_pow_right (n := 10) (by decide) (bcT_le s)) (by decide))
theorem sumTo_filterU (f : Nat → Nat) (p : Nat → Bool) : ∀ m, sumTo (fun j => f (((List.range m).filter p).getD j 0)) ((List.range m).filter p).length = sumTo (fun x => if p x = true then f x else 0) m
  | 0 => rfl
  | m + 1 => by
    rw [List.range_succ, List.filter_append]
    show _ = sumTo (fun x => if p x = true then f x else 0) m + (if p m = true then f m else 0)
    rw [← sumTo_filterU f p m]
    cases hp : p m
    · rw [List.filter_cons, if_neg (by rw [hp]; decide), List.filter_nil, List.append_nil]
      simp
    · rw [List.filter_cons, if_pos hp, List.filter_nil, List.length_append, List.length_singleton, if_pos rfl]
      show sumTo _ _ + f _ = _
      congr 1
      · exact sumTo_congr fun i hi => by rw [List.getD_eq_getElem?_getD, List.getD_eq_getElem?_getD, List.getElem?_append_left hi]
      · rw [List.getD_eq_getElem?_getD, List.getElem?_append_right (Nat.le_refl _), Nat.sub_self]; rfl
theorem sumTo_ext {f : Nat → Nat} {a : Nat} : ∀ {b : Nat}, a ≤ b → (∀ i, a ≤ i → i < b → f i = 0) → sumTo f b = sumTo f a
  | 0, h, _ => by rw [show a = 0 by omega]
  | b + 1, h, h0 => by
    by_cases e : a = b + 1
    · rw [e]
    · show sumTo f b + f b = _
      rw [h0 b (by omega) (by omega), sumTo_ext (b := b) (by omega) fun i h1 h2 => h0 i h1 (by omega), Nat.add_zero]
theorem mbs_sumN {n s : Nat} (hs : s < 2 ^ n) (hn : n ≤ 10) (f : Nat → Nat) : sumTo (fun j => f ((mbs s).getD j 0)) (mbs s).length = sumTo (fun x => if s.testBit x = true then f x else 0) n := by
  unfold mbs
  rw [sumTo_filterU, sumTo_ext hn]
  intro i h1 _
  rw [Nat.testBit_lt_two_pow (Nat.lt_of_lt_of_le hs (Nat.pow_le_pow_right (n := 2) (by decide) h1))]; rfl
/-! The program's map. -/
def psN (n : Nat) (S : List Nat) (s : Nat) (L : List Nat) (i : Nat) : Nat := sumTo (fun j => wyN n S (s - 2 ^ L.getD j 0)) i
theorem psN_s (n : Nat) (S : List Nat) (s : Nat) (L : List Nat) (i : Nat) : psN n S s L (i + 1) = psN n S s L i + wyN n S (s - 2 ^ L.getD i 0) := rfl
theorem psN_le {n : Nat} (S : List Nat) (hn : n ≤ 10) (s : Nat) (L : List Nat) (i : Nat) : psN n S s L i ≤ i * 10000000000 := sumTo_le (fun _ => wyN_le S hn _) i
theorem psN_end {n : Nat} {S : List Nat} (hn : n ≤ 10) {s : Nat} (hs : s < 2 ^ n) (h0 : s ≠ 0) (hS : s ∈ S) : psN n S s (mbs s) (mbs s).length = wyN n S s := by
  rw [wyN_eq, if_neg h0, if_pos hS]
  exact mbs_sumN hs hn fun p => wyN n S (s - 2 ^ p)
def WyI (n : Nat) (S : List Nat) (k : Nat) (v : Nat) (m : List (Int × Int)) : Prop := ∀ t : Nat, t < 2 ^ n → mgd m (t : Int) = if t = 0 then (1 : Int) else if t ∈ S.take k then (wyN n S t : Int) else if k < S.length ∧ t = S.getD k 0 then (v : Int) else 0
theorem take_sU {S : List Nat} {k : Nat} (hk : k < S.length) : S.take (k + 1) = S.take k ++ [S.getD k 0] := by rw [List.take_add_one, List.getElem?_eq_getElem hk, List.getD_eq_getElem?_getD, List.getElem?_eq_getElem hk]; rfl
theorem mem_take {S : List Nat} {k t : Nat} : t ∈ S.take k ↔ ∃ j, j < k ∧ j < S.length ∧ S.getD j 0 = t := by
  rw [mem_get]
  constructor
  · rintro ⟨i, hi, e⟩
    rw [List.length_take] at hi
    refine ⟨i, by omega, by omega, ?_⟩
    rw [← e, List.getD_eq_getElem?_getD, List.getD_eq_getElem?_getD, List.getElem?_take_of_lt (by omega)]
  · rintro ⟨j, h1, h2, e⟩
    refine ⟨j, by rw [List.length_take]; omega, ?_⟩
    rw [← e, List.getD_eq_getElem?_getD, List.getD_eq_getElem?_getD, List.getElem?_take_of_lt h1]
theorem WyI.start (n : Nat) (S : List Nat) : WyI n S 0 0 (mput [] 0 1) := fun t ht => by
  rw [mgd_put]
  by_cases e : t = 0
  · subst e; rw [if_pos (by omega), if_pos rfl]
  · rw [if_neg (by omega), if_neg e]
    simp [mgd, mget]
theorem WyI.low {n : Nat} {S : List Nat} (hS : Fml n S) {k v : Nat} (hk : k < S.length) {m : List (Int × Int)} (h : WyI n S k v m) {t : Nat} (ht : t < S.getD k 0) : mgd m (t : Int) = wyN n S t := by
  have hg := hS.get k
  rw [h t (by omega)]
  by_cases e : t = 0
  · subst e; rw [if_pos rfl, wyN_eq, if_pos rfl]; rfl
  · rw [if_neg e]
    by_cases h1 : t ∈ S.take k
    · rw [if_pos h1]
    · rw [if_neg h1, if_neg (by omega), wyN_eq, if_neg e, if_neg]
      · rfl
      · intro hq
        obtain ⟨j, hj, ej⟩ := mem_get.1 hq
        refine h1 (mem_take.2 ⟨j, ?_, hj, ej⟩)
        rcases Nat.lt_trichotomy j k with q | q | q
        · exact q
        · subst q; omega
        · have := rise_get hS.rise q hj; omega
theorem WyI.own {n : Nat} {S : List Nat} (hS : Fml n S) {k v : Nat} (hk : k < S.length) {m : List (Int × Int)} (h : WyI n S k v m) (h0 : S.getD k 0 ≠ 0) : mgd m ((S.getD k 0 : Nat) : Int) = v := by
  rw [h _ (hS.get k), if_neg h0, if_neg, if_pos ⟨hk, rfl⟩]
  intro hq
  obtain ⟨j, h1, h2, e⟩ := mem_take.1 hq
  have := rise_get hS.rise h1 hk
  omega
theorem WyI.put {n : Nat} {S : List Nat} (hS : Fml n S) {k v : Nat} (hk : k < S.length) {m : List (Int × Int)} (h : WyI n S k v m) (h0 : S.getD k 0 ≠ 0) (u : Nat) : WyI n S k u (mput m ((S.getD k 0 : Nat) : Int) (u : Int)) := fun t ht => by
  rw [mgd_put]
  by_cases e : t = S.getD k 0
  · rw [if_pos (by omega), if_neg (by omega), if_neg, if_pos ⟨hk, e⟩]
    intro hq
    obtain ⟨j, h1, h2, e2⟩ := mem_take.1 hq
    have := rise_get hS.rise h1 hk
    omega
  · have hq : ¬ (k < S.length ∧ t = S.getD k 0) := fun q => e q.2
    rw [if_neg (by omega), h t ht, if_neg hq, if_neg hq]
theorem WyI.next {n : Nat} {S : List Nat} (hS : Fml n S) (hn : n ≤ 10) {k : Nat} (hk : k < S.length) {m : List (Int × Int)} (h : WyI n S k (psN n S (S.getD k 0) (mbs (S.getD k 0)) (mbs (S.getD k 0)).length) m) : WyI n S (k + 1) 0 m := fun t ht => by
  rw [h t ht]
  by_cases e : t = 0
  · rw [if_pos e, if_pos e]
  · rw [if_neg e, if_neg e, take_sU hk]
    by_cases h1 : t ∈ S.take k
    · rw [if_pos h1, if_pos (List.mem_append.2 (.inl h1))]
    · rw [if_neg h1]
      by_cases h2 : t = S.getD k 0
      · rw [if_pos ⟨hk, h2⟩, if_pos (List.mem_append.2 (.inr (List.mem_singleton.2 h2))), ← h2, psN_end hn ht e (by rw [h2]; exact mem_get.2 ⟨k, hk, rfl⟩)]
      · rw [if_neg (fun q => h2 q.2), if_neg]
        · split <;> rfl
        · intro hq
          rcases List.mem_append.1 hq with hq | hq
          · exact h1 hq
          · exact h2 (List.mem_singleton.1 hq)
theorem WyI.last {n : Nat} {S : List Nat} {k : Nat} (hk : k = S.length) {m : List (Int × Int)} (h : WyI n S k 0 m) {t : Nat} (ht : t < 2 ^ n) (hm : t ∈ S) : mgd m (t : Int) = wyN n S t := by
  rw [h t ht, hk, List.take_length, if_pos hm]
  split
  · rename_i e; subst e; rw [wyN_eq, if_pos rfl]; rfl
  · rfl
set_option maxHeartbeats 2000000 in
theorem Words_ok (n : Nat) (S : List Nat) (hW : Wf n S) : AC Tryd.prog 43 [ordv n (nl S)] [] (.tup [.val (.int .i64 (wyN n S (2 ^ n - 1) : Nat)), .val (.int .i64 0)]) [] := by
  have hn := hW.hn
  have hS := hW.fm
  have hpn := p2_10 hW.hn
  have hpp := p2_pos n
  have hlS := hS.len
  have hget := hS.get
  have hnl := nl_len S
  have k1 := whole_ac n (nl S) (by rw [nl_len]; omega)
  rw [hW.wfk] at k1
  have htop := hW.top
  refine AC.mk (n := 49) (fn := Tryd.f43) Tryd.func43 (by kernel_rfl) rfl rfl rfl rfl (fun cx => ?_); dsimp only [argv, Nat.reduceAdd]
  
  (repeat' (first | refine a_seq ?_ | refine a_block ?_ | refine a_skip ?_ | refine a_ret ?_ | refine a_exit ?_ | refine a_region ?_ | refine l_nil ?_ | (apply w_q; (focus (first | exact Q_move (by conv => lhs; whnf) | exact Q_assign (by conv => lhs; whnf) | exact Q_fieldAddr_ptr rfl KFl.h | exact Q_fieldAddr_rpt rfl KFl.h | exact Q_load_ptr rfl rfl rfl KSc.h | exact Q_load_all rfl rfl KAg.h | exact Q_neq rfl rfl | exact Q_neqB rfl rfl KBo.h | exact Q_ld_rpa rfl KAg.h rfl rfl (by first | (dsimp only [List.drop_zero, List.drop_succ_cons, List.take_succ_cons, List.take_zero, List.map, ofD]; done) | exact rfl) | exact Q_ld_rv rfl rfl KSc.h | exact Q_ld_rs rfl rfl KSc.h | exact Q_ld_nats rfl (by omega) KSc.h | exact Q_ld_ints rfl (by omega) KSc.h | exact Q_ld_ownN rfl rfl (by omega) KSc.h | exact Q_ld_own rfl rfl (by omega) KSc.h | exact Q_ld_rows rfl (by omega) KSc.h | exact Q_ld_pair1N rfl (by omega) KSc.h | exact Q_ld_pair2N rfl (by omega) KSc.h | exact Q_ld_pair1 rfl (by omega) KSc.h | exact Q_ld_pair2 rfl (by omega) KSc.h | exact Q_ld_pairN rfl (by omega) KAg.h | exact Q_ld_pair rfl (by omega) KAg.h | exact Q_neqP rfl rfl inferInstance | exact Q_ld_ord rfl (by omega) KAg.h | exact Q_ld_ownb rfl rfl (by omega) KSc.h | exact Q_len_nats rfl KSl.h | exact Q_len_ints rfl KSl.h | exact Q_len_ownN rfl rfl KSl.h | exact Q_len_own' rfl rfl KSl.h | exact Q_len_rows rfl KSl.h | exact Q_len_pairsN rfl KSl.h | exact Q_len_pairs rfl KSl.h | exact Q_len_ords rfl KSl.h | exact Q_len_nil' rfl KSl.h | exact Q_len_ownp rfl rfl KSl.h)); (focus exact rfl)) | (refine a_cond rfl ?_ ?_ <;> (intro h; (try (have hp := of_decide_eq_true h)); (try (have hp := of_decide_eq_false h)); (try contradiction); (try (exfalso; omega)))) | refine w_box rfl rfl (by first|(dsimp only[obA,obB,obD,obE,obF,obG,obI,List.map,AO.sh,AV.sh,AV.shl,Nat.reduceAdd];done)|exact rfl) (by first|(dsimp only[obA,obB,obD,obE,obF,obG,obI,List.map,AO.sh,AV.sh,AV.shl,Nat.reduceAdd];done)|exact rfl) rfl ?_ | refine w_box1 (by conv => lhs; whnf) rfl rfl (by first|(dsimp only[obA,obB,obD,obE,obF,obG,obI,List.map,AO.sh,AV.sh,AV.shl,Nat.reduceAdd];done)|exact rfl) (by first|(dsimp only[obA,obB,obD,obE,obF,obG,obI,List.map,AO.sh,AV.sh,AV.shl,Nat.reduceAdd];done)|exact rfl) rfl ?_ | refine w_makeMap (by first|(dsimp only[obA,obB,obD,obE,obF,obG,obI,List.map,AO.sh,AV.sh,AV.shl,Nat.reduceAdd];done)|exact rfl) (by first|(dsimp only[obA,obB,obD,obE,obF,obG,obI,List.map,AO.sh,AV.sh,AV.shl,Nat.reduceAdd];done)|exact rfl) rfl ?_ | refine w_insert rfl rfl rfl rfl KMp.h (by first|(dsimp only[obA,obB,obD,obE,obF,obG,obI,List.map,AO.sh,AV.sh,AV.shl,Nat.reduceAdd];done)|exact rfl) ?_ | (((first | apply w_q | apply w_qq); (focus (refine Q_call (.inl ⟨rfl, rfl⟩) (k1) ?_; ((repeat' (first | exact trivial | exact vwR rfl | exact vwRL rfl | exact Vw.val _ | exact Vw.ro _ | exact Vw.any _ | exact Vw.valro _ | exact Vw.own _ _ rfl | exact Vw.ptr _ _ _ rfl | exact Vw.rpt _ _ | exact Vw.nilro _ | exact Vw.rowro _ _ _ _ rfl (by decide) | exact Vw.rowro2 rfl (by decide) (by with_unfolding_all exact rfl) | refine Vw.agg' ?_ | refine Vw.tup' ?_ | refine Vw.clo' ?_ | refine Vw.boxrpt' rfl (by decide) ?_ | exact Nat.le_of_ble_eq_true rfl | refine ⟨?_, ?_⟩ )); done))); (focus exact rfl))))); (try all_goals (try show retA _ _ _ _ _ _ _))
  refine w_loop (X := Nat × List (Int × Int)) [1, 5, 18, 19] (by simp only [keepv, getv_cons, Nat.reduceEqDiff, ↓reduceIte]; exact rfl) (fun p => [(20, .val (.int .i64 (p.1 : Int)))]) (fun p => [.box [.val (.int .i64 n), ints (nl S)], .mp (mi p.2)]) (fun p => p.1 ≤ S.length ∧ WyI n S p.1 0 p.2) (fun p => S.length - p.1) ((0, mput [] 0 1)) ([0, 1]) ?_ ?_ rfl ?_ <;> (try dsimp only [List.cons_append, List.nil_append])
  · exact ⟨Nat.zero_le _, WyI.start n S⟩
  · (refine St.le_mk rfl (VwOs.mk (by decide) ?_) ?_ <;> (repeat' (first | exact trivial | exact vwR rfl | exact Vw.val _ | exact Vw.ro _ | exact Vw.any _ | exact Vw.own _ _ rfl | exact Vw.ptr _ _ _ rfl | exact Vw.rpt _ _ | exact Vw.valro _ | exact Vw.nilro _ | exact Vw.rowro _ _ _ _ rfl (by decide) | (refine Vw.int' ?_; first | rfl | omega | (simp; done)) | (refine Vw.bool' ?_; first | rfl | (simp; done)) | refine Vw.agg' ?_ | refine Vw.tup' ?_ | refine Vw.clo' ?_ | exact VwO.row _ _ _ | refine VwO.box' ?_ | exact VwO.gone _ | exact VwO.mp _ | exact VwO.mat _ _ _ | refine ⟨⟨_, rfl, ?_⟩, ?_⟩ | refine ⟨?_, ?_⟩ )))
  rintro ⟨k, m⟩ ⟨hk, hI⟩
  dsimp only at *
  by_cases hkS : k < S.length
  · have hs := hget k
    have hlow := fun v m (h : WyI n S k v m) t ht => h.low hS hkS (t := t) ht
    have hown := fun v m (h : WyI n S k v m) h0 => h.own hS hkS h0
    have hput := fun v m (h : WyI n S k v m) h0 u => h.put hS hkS h0 u
    have hnext := fun m h => WyI.next hS hn hkS (m := m) h
    have hmb := fun i hi => hS.mem hs hn (i := i) hi
    have kM := Members_ac (S.getD k 0) (by omega)
    have hml := mbs_len (S.getD k 0)
    obtain ⟨s, hse⟩ : ∃ s, S.getD k 0 = s := ⟨_, rfl⟩
    rw [hse] at hs hlow hown hput hnext hmb kM hml
    have hps := psN_s n S s (mbs s)
    have hpl := psN_le S hn s (mbs s)
    have hp0 : psN n S s (mbs s) 0 = 0 := rfl
    have hnd := fun i (hi : i < (mbs s).length) => nd_subU (hmb i hi).2
    have hle := fun i (hi : i < (mbs s).length) => pow_le_bit (hmb i hi).2
    have hwl := wyN_le S hn
    generalize mbs s = L at *
    generalize psN n S s L = V at *
    
    (repeat' (first | (((first | apply w_q | apply w_qq); (focus exact Q_ld_natsU hse rfl (by omega) KSc.h); (focus exact rfl))) | (first | refine a_seq ?_ | refine a_block ?_ | refine a_skip ?_ | refine a_ret ?_ | refine a_exit ?_ | refine a_region ?_ | refine l_nil ?_ | (apply w_q; (focus (first | exact Q_move (by conv => lhs; whnf) | exact Q_assign (by conv => lhs; whnf) | exact Q_load_ptr rfl rfl rfl KSc.h | exact Q_load_all rfl rfl KAg.h | exact Q_lss rfl rfl | exact Q_ix_nats rfl rfl rfl KSl.h (by omega) | exact Q_ix_ints rfl rfl rfl KSl.h (by omega) | exact Q_ix_ownN rfl rfl rfl rfl KSl.h (by omega) | exact Q_ix_own rfl rfl rfl rfl KSl.h (by omega) | exact Q_ix_rows rfl rfl rfl KSl.h (by omega) | exact Q_ix_pairsN rfl rfl rfl KSl.h (by omega) | exact Q_ix_pairs rfl rfl rfl KSl.h (by omega) | exact Q_ix_ords rfl rfl rfl KSl.h (by omega) | exact Q_ix_ownb rfl rfl rfl rfl KSl.h (by omega) | exact Q_ix_arr rfl rfl rfl KAr.h (by first | decide | omega) | exact Q_ix_arp rfl rfl rfl KAr.h (by first | decide | omega) | exact Q_ld_rpa rfl KAg.h rfl rfl (by first | (dsimp only [List.drop_zero, List.drop_succ_cons, List.take_succ_cons, List.take_zero, List.map, ofD]; done) | exact rfl) | exact Q_ld_rv rfl rfl KSc.h | exact Q_ld_rs rfl rfl KSc.h | exact Q_ld_nats rfl (by omega) KSc.h | exact Q_ld_ints rfl (by omega) KSc.h | exact Q_ld_ownN rfl rfl (by omega) KSc.h | exact Q_ld_own rfl rfl (by omega) KSc.h | exact Q_ld_rows rfl (by omega) KSc.h | exact Q_ld_pair1N rfl (by omega) KSc.h | exact Q_ld_pair2N rfl (by omega) KSc.h | exact Q_ld_pair1 rfl (by omega) KSc.h | exact Q_ld_pair2 rfl (by omega) KSc.h | exact Q_ld_pairN rfl (by omega) KAg.h | exact Q_ld_pair rfl (by omega) KAg.h | exact Q_ld_ord rfl (by omega) KAg.h | exact Q_ld_ownb rfl rfl (by omega) KSc.h | exact Q_len_nats rfl KSl.h | exact Q_len_ints rfl KSl.h | exact Q_len_ownN rfl rfl KSl.h | exact Q_len_own' rfl rfl KSl.h | exact Q_len_rows rfl KSl.h | exact Q_len_pairsN rfl KSl.h | exact Q_len_pairs rfl KSl.h | exact Q_len_ords rfl KSl.h | exact Q_len_nil' rfl KSl.h | exact Q_len_ownp rfl rfl KSl.h)); (focus exact rfl)) | (refine a_cond rfl ?_ ?_ <;> (intro h; (try (have hp := of_decide_eq_true h)); (try (have hp := of_decide_eq_false h)); (try contradiction); (try (exfalso; omega)))) | ((refine w_callV (.inl ⟨rfl, rfl⟩) (kM) ?_ (by first | (dsimp only [AV.sh, AV.shl, sh_ints, sh_rows, sh_pairs, sh_ords]; done) | exact rfl) rfl ?_; rotate_left 0; (focus ((repeat' (first | exact trivial | exact Vs.val _ | exact Vs.ro _ | exact Vs.rpt _ _ | exact Vs.valro _ | exact Vs.nilro _ | exact Vs.any _ | refine Vs.agg' ?_ | refine Vs.tup' ?_ | refine Vs.clo' ?_ | refine ⟨?_, ?_⟩)); done)); rotate_left 1; all_goals (try (skip))))))); (try all_goals (try show retA _ _ _ _ _ _ _))
    refine w_loop (X := Nat × List (Int × Int)) [1, 5, 7, 18, 19, 20, 25, 26] (by simp only [keepv, getv_cons, Nat.reduceEqDiff, ↓reduceIte]; exact rfl) (fun p => [(27, .val (.int .i64 (p.1 : Int)))]) (fun p => [.box [.val (.int .i64 n), ints (nl S)], .mp (mi p.2)]) (fun p => p.1 ≤ L.length ∧ WyI n S k (V p.1) p.2) (fun p => L.length - p.1) ((0, m)) ([0, 1]) ?_ ?_ rfl ?_ <;> (try dsimp only [List.cons_append, List.nil_append])
    · exact ⟨Nat.zero_le _, by rw [hp0]; exact hI⟩
    · (refine St.le_mk rfl (VwOs.mk (by decide) ?_) ?_ <;> (repeat' (first | exact trivial | exact vwR rfl | exact Vw.val _ | exact Vw.ro _ | exact Vw.any _ | exact Vw.own _ _ rfl | exact Vw.ptr _ _ _ rfl | exact Vw.rpt _ _ | exact Vw.valro _ | exact Vw.nilro _ | exact Vw.rowro _ _ _ _ rfl (by decide) | (refine Vw.int' ?_; first | rfl | omega | (simp; done)) | (refine Vw.bool' ?_; first | rfl | (simp; done)) | refine Vw.agg' ?_ | refine Vw.tup' ?_ | refine Vw.clo' ?_ | exact VwO.row _ _ _ | refine VwO.box' ?_ | exact VwO.gone _ | exact VwO.mp _ | exact VwO.mat _ _ _ | refine ⟨⟨_, rfl, ?_⟩, ?_⟩ | refine ⟨?_, ?_⟩ )))
    clear hI
    clear m
    rintro ⟨i, m⟩ ⟨hi, hI⟩
    dsimp only at *
    by_cases hil : i < L.length
    · obtain ⟨m1, m2⟩ := hmb i hil
      have e1 := hps i
      have e2 := hpl i
      have e3 := hnd i hil
      have e4 := hle i hil
      have h2p : 0 < 2 ^ L.getD i 0 := Nat.pow_pos (by decide)
      have h2q : 2 ^ L.getD i 0 ≤ 1024 := p2_10 (by omega)
      have v1 := hown _ m hI (by omega)
      have v2 := hlow _ m hI (s - 2 ^ L.getD i 0) (by omega)
      have v3 := hput _ m hI (by omega) (V (i + 1))
      have e5 := hwl (s - 2 ^ L.getD i 0)
      rw [← e3] at e1 v2 e5
      have e6 : i * 10000000000 ≤ 100000000000 := by omega
      generalize wyN n S (ndiff s (2 ^ L.getD i 0)) = w at *
      
      (repeat' (first | (((first | apply w_q | apply w_qq); (focus exact Q_lookupW rfl rfl rfl KMp.h v1); (focus exact rfl))) | (((first | apply w_q | apply w_qq); (focus exact Q_lookupW rfl rfl rfl KMp.h v2); (focus exact rfl))) | (first | refine a_seq ?_ | refine a_block ?_ | refine a_skip ?_ | refine a_ret ?_ | refine a_exit ?_ | refine a_region ?_ | refine l_nil ?_ | refine q_nil ?_ | ((first | apply w_q | apply w_qq); (focus (first | exact Q_move (by conv => lhs; whnf) | exact Q_assign (by conv => lhs; whnf) | exact Q_load_ptr rfl rfl rfl KSc.h | exact Q_load_all rfl rfl KAg.h | exact Q_lss rfl rfl | exact Q_add rfl rfl (by omega) | exact Q_bit rfl rfl (by omega) | exact Q_ix_nats rfl rfl rfl KSl.h (by omega) | exact Q_ix_ints rfl rfl rfl KSl.h (by omega) | exact Q_ix_ownN rfl rfl rfl rfl KSl.h (by omega) | exact Q_ix_own rfl rfl rfl rfl KSl.h (by omega) | exact Q_ix_rows rfl rfl rfl KSl.h (by omega) | exact Q_ix_pairsN rfl rfl rfl KSl.h (by omega) | exact Q_ix_pairs rfl rfl rfl KSl.h (by omega) | exact Q_ix_ords rfl rfl rfl KSl.h (by omega) | exact Q_ix_ownb rfl rfl rfl rfl KSl.h (by omega) | exact Q_ix_arr rfl rfl rfl KAr.h (by first | decide | omega) | exact Q_ix_arp rfl rfl rfl KAr.h (by first | decide | omega) | exact Q_ld_rpa rfl KAg.h rfl rfl (by first | (dsimp only [List.drop_zero, List.drop_succ_cons, List.take_succ_cons, List.take_zero, List.map, ofD]; done) | exact rfl) | exact Q_ld_rv rfl rfl KSc.h | exact Q_ld_rs rfl rfl KSc.h | exact Q_ld_nats rfl (by omega) KSc.h | exact Q_ld_ints rfl (by omega) KSc.h | exact Q_ld_ownN rfl rfl (by omega) KSc.h | exact Q_ld_own rfl rfl (by omega) KSc.h | exact Q_ld_rows rfl (by omega) KSc.h | exact Q_ld_pair1N rfl (by omega) KSc.h | exact Q_ld_pair2N rfl (by omega) KSc.h | exact Q_ld_pair1 rfl (by omega) KSc.h | exact Q_ld_pair2 rfl (by omega) KSc.h | exact Q_ld_pairN rfl (by omega) KAg.h | exact Q_ld_pair rfl (by omega) KAg.h | exact Q_ld_ord rfl (by omega) KAg.h | exact Q_ld_ownb rfl rfl (by omega) KSc.h)); (focus exact rfl)) | (refine a_cond rfl ?_ ?_ <;> (intro h; (try (have hp := of_decide_eq_true h)); (try (have hp := of_decide_eq_false h)); (try contradiction); (try (exfalso; omega)))) | refine a_drawT (id := 11) 10 (by kernel_rfl) (by kernel_rfl) (by simp only [List.take_succ_cons, List.take_zero, List.drop_succ_cons, List.drop_zero]; exact rfl) (by simp only [List.take_succ_cons, List.take_zero, List.drop_succ_cons, List.drop_zero]; exact rfl) ?_ | refine a_draw (by kernel_rfl) (by kernel_rfl) ?_ | refine w_mput rfl rfl rfl rfl KMp.h (by first|(dsimp only[obA,obB,obD,obE,obF,obG,obI,List.map,AO.sh,AV.sh,AV.shl,Nat.reduceAdd];done)|exact rfl) ?_ | (((first | apply w_q | apply w_qq); (focus exact Q_andNotN rfl rfl (by omega) (by omega)); (focus exact rfl)))))); (try all_goals (try show retA _ _ _ _ _ _ _))
      refine ⟨(i + 1, mput m (s : Int) ((V (i + 1) : Nat) : Int)), [0, 1], ?_, ?_, ?_, rfl⟩ <;> (try dsimp only)
      · exact ⟨by omega, v3⟩
      · omega
      · rw [e1]
        (refine St.le_mk rfl (VwOs.mk (by decide) ?_) ?_ <;> (repeat' (first | exact trivial | exact vwR rfl | exact Vw.val _ | exact Vw.ro _ | exact Vw.any _ | exact Vw.own _ _ rfl | exact Vw.ptr _ _ _ rfl | exact Vw.rpt _ _ | exact Vw.valro _ | exact Vw.nilro _ | exact Vw.rowro _ _ _ _ rfl (by decide) | (refine Vw.int' ?_; first | rfl | omega | (simp; done)) | (refine Vw.bool' ?_; first | rfl | (simp; done)) | refine Vw.agg' ?_ | refine Vw.tup' ?_ | refine Vw.clo' ?_ | exact VwO.row _ _ _ | refine VwO.box' ?_ | exact VwO.gone _ | exact VwO.mp _ | exact VwO.mat _ _ _ | refine ⟨⟨_, rfl, ?_⟩, ?_⟩ | refine ⟨?_, ?_⟩ )))
    · obtain rfl : i = L.length := by omega
      have hq := hnext m hI
      
      (repeat' (first | refine a_seq ?_ | refine a_block ?_ | refine a_skip ?_ | refine a_ret ?_ | refine a_exit ?_ | refine a_region ?_ | refine l_nil ?_ | (apply w_q; (focus (first | exact Q_move (by conv => lhs; whnf) | exact Q_lss rfl rfl | exact Q_add rfl rfl (by omega))); (focus exact rfl)) | (refine a_cond rfl ?_ ?_ <;> (intro h; (try (have hp := of_decide_eq_true h)); (try (have hp := of_decide_eq_false h)); (try contradiction); (try (exfalso; omega)))))); (try all_goals (try show retA _ _ _ _ _ _ _))
      refine ⟨(k + 1, m), [0, 1], ?_, ?_, ?_, rfl⟩ <;> (try dsimp only)
      · exact ⟨by omega, hq⟩
      · omega
      · (refine St.le_mk rfl (VwOs.mk (by decide) ?_) ?_ <;> (repeat' (first | exact trivial | exact vwR rfl | exact Vw.val _ | exact Vw.ro _ | exact Vw.any _ | exact Vw.own _ _ rfl | exact Vw.ptr _ _ _ rfl | exact Vw.rpt _ _ | exact Vw.valro _ | exact Vw.nilro _ | exact Vw.rowro _ _ _ _ rfl (by decide) | (refine Vw.int' ?_; first | rfl | omega | (simp; done)) | (refine Vw.bool' ?_; first | rfl | (simp; done)) | refine Vw.agg' ?_ | refine Vw.tup' ?_ | refine Vw.clo' ?_ | exact VwO.row _ _ _ | refine VwO.box' ?_ | exact VwO.gone _ | exact VwO.mp _ | exact VwO.mat _ _ _ | refine ⟨⟨_, rfl, ?_⟩, ?_⟩ | refine ⟨?_, ?_⟩ )))
  · obtain rfl : k = S.length := by omega
    have v1 := hI.last rfl (t := 2 ^ n - 1) (by omega) htop
    
    (repeat' (first | (((first | apply w_q | apply w_qq); (focus exact Q_subU (b := 1) rfl rfl (by omega) (by omega)); (focus exact rfl))) | (((first | apply w_q | apply w_qq); (focus exact Q_lookupW rfl rfl rfl KMp.h v1); (focus exact rfl))) | (first | refine a_seq ?_ | refine a_block ?_ | refine a_skip ?_ | refine a_ret ?_ | refine a_exit ?_ | refine a_region ?_ | refine l_nil ?_ | (apply w_q; (focus (first | exact Q_move (by conv => lhs; whnf) | exact Q_assign (by conv => lhs; whnf) | exact Q_fieldAddr_ptr rfl KFl.h | exact Q_fieldAddr_rpt rfl KFl.h | exact Q_load_ptr rfl rfl rfl KSc.h | exact Q_load_all rfl rfl KAg.h | exact Q_lss rfl rfl | exact Q_bit rfl rfl (by omega) | exact Q_sub rfl rfl (by omega) | exact Q_ld_rpa rfl KAg.h rfl rfl (by first | (dsimp only [List.drop_zero, List.drop_succ_cons, List.take_succ_cons, List.take_zero, List.map, ofD]; done) | exact rfl) | exact Q_ld_rv rfl rfl KSc.h | exact Q_ld_rs rfl rfl KSc.h | exact Q_ld_nats rfl (by omega) KSc.h | exact Q_ld_ints rfl (by omega) KSc.h | exact Q_ld_ownN rfl rfl (by omega) KSc.h | exact Q_ld_own rfl rfl (by omega) KSc.h | exact Q_ld_rows rfl (by omega) KSc.h | exact Q_ld_pair1N rfl (by omega) KSc.h | exact Q_ld_pair2N rfl (by omega) KSc.h | exact Q_ld_pair1 rfl (by omega) KSc.h | exact Q_ld_pair2 rfl (by omega) KSc.h | exact Q_ld_pairN rfl (by omega) KAg.h | exact Q_ld_pair rfl (by omega) KAg.h | exact Q_ld_ord rfl (by omega) KAg.h | exact Q_ld_ownb rfl rfl (by omega) KSc.h)); (focus exact rfl)) | (refine a_cond rfl ?_ ?_ <;> (intro h; (try (have hp := of_decide_eq_true h)); (try (have hp := of_decide_eq_false h)); (try contradiction); (try (exfalso; omega))))))); (try all_goals (try show retA _ _ _ _ _ _ _))
    refine ⟨[_, _], [], ⟨resV_tmp (by conv => lhs; whnf), resV_tmp (by conv => lhs; whnf), trivial⟩, VwOs.mk (by decide) trivial, ?_, rfl⟩
    (repeat' (first | exact trivial | exact vwR rfl | exact vwRL rfl | exact Vw.val _ | exact Vw.ro _ | exact Vw.any _ | exact Vw.valro _ | exact Vw.own _ _ rfl | exact Vw.ptr _ _ _ rfl | exact Vw.rpt _ _ | exact Vw.nilro _ | exact Vw.rowro _ _ _ _ rfl (by decide) | exact Vw.rowro2 rfl (by decide) (by with_unfolding_all exact rfl) | refine Vw.agg' ?_ | refine Vw.tup' ?_ | refine Vw.clo' ?_ | refine Vw.boxrpt' rfl (by decide) ?_ | exact Nat.le_of_ble_eq_true rfl | refine ⟨?_, ?_⟩ ))
/-! The reference's row. -/
def fS (n : Nat) (f : Nat → Nat) : List Nat := (List.range n).map f
def qsN (n : Nat) (S : List Nat) (s p : Nat) : Nat := sumTo (fun p => if s.testBit p = true then wyN n S (s - 2 ^ p) else 0) p
def wrF (n : Nat) (S : List Nat) (s v t : Nat) : Nat := if t = 0 then 1 else if t < s then wyN n S t else if t = s then v else 0
end Go.Proofs.YtdkkalplgfhpdaaDoor
