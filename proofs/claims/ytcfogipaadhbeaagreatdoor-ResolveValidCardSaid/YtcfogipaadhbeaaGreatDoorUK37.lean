/- A part of the claim: see its last text. -/
import Derived.Test.YtcfogipaadhbeaaGreatDoorUK36

set_option maxRecDepth 100000
set_option maxHeartbeats 16000000
namespace Go.Proofs.YtcfogipaadhbeaaGreatDoor
open Go Go.RowKit Go.Proofs
section
variable {m : Mod} (hv : validM m = true)
include hv
theorem nm_site {n : Int} (hn : exI n m.sT.length = true) : isName (siteN m n) = true := by
 obtain ⟨a, ha, rfl⟩ := exI_yes2 hn
 rw [siteN_is m ha]
 exact (names_nodup hv).2 _ (part_sub (s := 0) (by show _ ∈ m.sT; exact List.getElem_mem ha))
theorem nm_feed {n : Int} (hn : exI n m.fT.length = true) : isName (feedN m n) = true := by
 obtain ⟨a, ha, rfl⟩ := exI_yes2 hn
 rw [feedN_is m ha]
 exact (names_nodup hv).2 _ (part_sub (s := 1) (by show _ ∈ m.fT; exact List.getElem_mem ha))
theorem nm_rackx {x : RackM} (hx : x ∈ m.rT) : isName x.name = true := (names_nodup hv).2 _ (part_sub (s := 2) (by show _ ∈ m.rT.map _; exact List.mem_map.2 ⟨x, hx, rfl⟩))
theorem nm_machx {x : MachM} (hx : x ∈ m.mT) : isName x.name = true := (names_nodup hv).2 _ (part_sub (s := 3) (by show _ ∈ m.mT.map _; exact List.mem_map.2 ⟨x, hx, rfl⟩))
theorem nm_itemx {x : ItemM} (hx : x ∈ m.iT) : isName x.name = true := (names_nodup hv).2 _ (part_sub (s := 5) (by show _ ∈ m.iT.map _; exact List.mem_map.2 ⟨x, hx, rfl⟩))
theorem nm_rack {n : Int} (hn : exI n m.rT.length = true) : isName (rackN m n) = true := by
 obtain ⟨a, ha, rfl⟩ := exI_yes2 hn
 rw [rackN_is m ha]; exact nm_rackx hv (List.getElem_mem ha)
theorem nm_mach {n : Int} (hn : exI n m.mT.length = true) : isName (mchN m n) = true := by
 obtain ⟨a, ha, rfl⟩ := exI_yes2 hn
 rw [mchN_is m ha]; exact nm_machx hv (List.getElem_mem ha)
theorem nm_item {n : Int} (hn : exI n m.iT.length = true) : isName (itN m n) = true := by
 obtain ⟨a, ha, rfl⟩ := exI_yes2 hn
 rw [itN_is m ha]; exact nm_itemx hv (List.getElem_mem ha)
end
theorem numOk_of {n : Int} (h0 : 0 ≤ n) (h1 : n ≤ 1048576) : numOk n = true := by simp [numOk, h0, h1]
theorem validD_of {d : Decl} {f : Form} (hf : form? d.kind = some f) (h1 : f.name = decide (d.name ≠ ⟨#[]⟩)) (h2 : f.least ≤ d.refs.length ∧ d.refs.length ≤ f.most) (h3 : d.nums.length = f.numbers) (h4 : f.by_ d.by_ = true) (h5 : f.always = true ∨ d.always = false) (h6 : d.name = ⟨#[]⟩ ∨ isName d.name = true) (h7 : ∀ r ∈ d.refs, isName r = true) (h8 : ∀ n ∈ d.nums, numOk n = true) : validD d = true := by
 have hs : shaped d = true := by
  unfold shaped
  rw [hf]
  simp only [fits, h1, h2.1, h2.2, h3, h4, beq_self_eq_true, decide_true, Bool.true_and, Bool.or_eq_true, Bool.not_eq_true']
  exact h5
 unfold validD
 rw [hs, List.all_eq_true.2 h7, List.all_eq_true.2 h8]
 simpa using h6
theorem ne_dec {s : ByteArray} (h : isName s = true) : true = decide (s ≠ ⟨#[]⟩) := by simp [isName_ne h]
theorem wi_num {n : Int} (h : wiI n 0 1048576 = true) : numOk n = true := by
 simp only [wiI, Bool.and_eq_true, decide_eq_true_eq] at h
 exact numOk_of h.1 h.2
theorem valid_ruleDl {m : Mod} (hv : validM m = true) {x : RuleM} (hx : ruleOk m x = true) : validD (ruleDl m x) = true := by
 have hrefs : (ruleDl m x).refs = itNs m [x.item, x.other] ++ x.machines.map (mchN m) := rfl
 have hn := rule_n hx
 have hx2 := hx
 rcases rule_forms hx with ⟨hk, h1, h2, h3, h4⟩ | ⟨hk, h1, h3, h4⟩ | ⟨hk, h1, h2, h3, h4⟩ | ⟨hk, h1, h3, h4⟩
 · have hr : (ruleDl m x).refs = [itN m x.item] := by rw [hrefs, itNs_two, if_pos (exI_pos h1), h3, if_neg (by decide), h4]; rfl
   have h7 : ∀ r ∈ (ruleDl m x).refs, isName r = true := by rw [hr]; intro r hr2; obtain rfl := List.mem_singleton.1 hr2; exact nm_item hv h1
   unfold ruleOk at hx2
   rcases hk with e | e | e | e
   · simp only [e, if_true, Bool.and_eq_true, decide_eq_true_eq, Bool.not_eq_true'] at hx2
     refine validD_of (f := ⟨(⟨#[113, 117, 111, 114, 117, 109]⟩ : ByteArray), false, 1, 1, 0, zeroI, false⟩) (by show form? (10 + x.kind) = _; rw [e]; rfl) rfl (by rw [hr]; exact ⟨Nat.le_refl 1, Nat.le_refl 1⟩) (by show (numsR x).length = 0; unfold numsR; rw [e]; rfl) (by show zeroI x.by_ = true; simp [zeroI, hx2.1.1.1.2]) (.inr hx2.1.1.2) (.inl rfl) h7 (by show ∀ n ∈ numsR x, _; unfold numsR; rw [e]; simp)
   · simp only [e, if_true, Bool.and_eq_true, decide_eq_true_eq, if_neg (show ¬ ((1 : Int) = 0) by decide)] at hx2
     refine validD_of (f := ⟨(⟨#[107, 101, 101, 112]⟩ : ByteArray), false, 1, 1, 1, zeroI, true⟩) (by show form? (10 + x.kind) = _; rw [e]; rfl) rfl (by rw [hr]; exact ⟨Nat.le_refl 1, Nat.le_refl 1⟩) (by show (numsR x).length = 1; unfold numsR; rw [e]; rfl) (by show zeroI x.by_ = true; simp [zeroI, hx2.1.1.2]) (.inl rfl) (.inl rfl) h7 (by show ∀ n ∈ numsR x, _; unfold numsR; rw [e]; simpa using numOk_of hn.1 (by omega))
   · simp only [e, if_true, Bool.and_eq_true, decide_eq_true_eq, Bool.not_eq_true', if_neg (show ¬ ((2 : Int) = 0) by decide), if_neg (show ¬ ((2 : Int) = 1) by decide), wiI] at hx2
     refine validD_of (f := ⟨(⟨#[115, 112, 114, 101, 97, 100]⟩ : ByteArray), false, 1, 1, 1, fun n => decide (2 ≤ n) && decide (n ≤ 4), false⟩) (by show form? (10 + x.kind) = _; rw [e]; rfl) rfl (by rw [hr]; exact ⟨Nat.le_refl 1, Nat.le_refl 1⟩) (by show (numsR x).length = 1; unfold numsR; rw [e]; rfl) (by show (decide (2 ≤ x.by_) && decide (x.by_ ≤ 4)) = true; simp [hx2.1.1.1.1.2]) (.inr hx2.1.1.2) (.inl rfl) h7 (by show ∀ n ∈ numsR x, _; unfold numsR; rw [e]; simpa using numOk_of hn.1 (by omega))
   · simp only [e, if_true, Bool.and_eq_true, decide_eq_true_eq, Bool.not_eq_true', if_neg (show ¬ ((6 : Int) = 0) by decide), if_neg (show ¬ ((6 : Int) = 1) by decide), if_neg (show ¬ ((6 : Int) = 2) by decide), if_neg (show ¬ ((6 : Int) = 3) by decide), if_neg (show ¬ ((6 : Int) = 4) by decide), if_neg (show ¬ ((6 : Int) = 5) by decide)] at hx2
     refine validD_of (f := ⟨(⟨#[115, 105, 108, 101, 110, 99, 101]⟩ : ByteArray), false, 1, 1, 1, zeroI, false⟩) (by show form? (10 + x.kind) = _; rw [e]; rfl) rfl (by rw [hr]; exact ⟨Nat.le_refl 1, Nat.le_refl 1⟩) (by show (numsR x).length = 1; unfold numsR; rw [e]; rfl) (by show zeroI x.by_ = true; simp [zeroI, hx2.1.1.1.2]) (.inr hx2.1.1.2) (.inl rfl) h7 (by show ∀ n ∈ numsR x, _; unfold numsR; rw [e]; simpa using numOk_of hn.1 (by omega))
 · obtain ⟨q1, q2, q3⟩ := v_inc h4
   have hle := incB_len h4
   have hms := (valid_sizes hv).2.2.1
   have hr : (ruleDl m x).refs = itN m x.item :: x.machines.map (mchN m) := by rw [hrefs, itNs_two, if_pos (exI_pos h1), h3, if_neg (by decide)]; rfl
   have hkd : (ruleDl m x).kind = 13 := by show 10 + x.kind = 13; omega
   unfold ruleOk at hx2
   simp only [hk, if_true, Bool.and_eq_true, decide_eq_true_eq, Bool.not_eq_true', if_neg (show ¬ ((3 : Int) = 0) by decide), if_neg (show ¬ ((3 : Int) = 1) by decide), if_neg (show ¬ ((3 : Int) = 2) by decide)] at hx2
   refine validD_of (f := ⟨(⟨#[111, 110, 108, 121]⟩ : ByteArray), false, 2, 17, 0, zeroI, false⟩) (by rw [hkd]; rfl) rfl (by rw [hr]; simp; omega) (by show (numsR x).length = 0; unfold numsR; rw [hk]; rfl) (by show zeroI x.by_ = true; simp [zeroI, hx2.1.1.2]) (.inr hx2.1.2) (.inl rfl) ?_ (by show ∀ n ∈ numsR x, _; unfold numsR; rw [hk]; simp)
   rw [hr]
   intro r hr2
   rcases List.mem_cons.1 hr2 with rfl | hr2
   · exact nm_item hv h1
   · obtain ⟨k, hk2, rfl⟩ := List.mem_map.1 hr2
     exact nm_mach hv (q2 k hk2)
 · have hr : (ruleDl m x).refs = [itN m x.item, itN m x.other] := by rw [hrefs, itNs_two, if_pos (exI_pos h1), if_pos (exI_pos h2), h4]; rfl
   have hkd : (ruleDl m x).kind = 14 := by show 10 + x.kind = 14; omega
   unfold ruleOk at hx2
   simp only [hk, if_true, Bool.and_eq_true, decide_eq_true_eq, Bool.not_eq_true', if_neg (show ¬ ((4 : Int) = 0) by decide), if_neg (show ¬ ((4 : Int) = 1) by decide), if_neg (show ¬ ((4 : Int) = 2) by decide), if_neg (show ¬ ((4 : Int) = 3) by decide)] at hx2
   refine validD_of (f := ⟨(⟨#[111, 114, 100, 101, 114]⟩ : ByteArray), false, 2, 2, 0, zeroI, false⟩) (by rw [hkd]; rfl) rfl (by rw [hr]; exact ⟨Nat.le_refl 2, Nat.le_refl 2⟩) (by show (numsR x).length = 0; unfold numsR; rw [hk]; rfl) (by show zeroI x.by_ = true; simp [zeroI, hx2.1.1.1.2]) (.inr hx2.1.1.2) (.inl rfl) ?_ (by show ∀ n ∈ numsR x, _; unfold numsR; rw [hk]; simp)
   rw [hr]
   intro r hr2
   simp only [List.mem_cons, List.not_mem_nil, or_false] at hr2
   rcases hr2 with rfl | rfl
   · exact nm_item hv h1
   · exact nm_item hv h2
 · have hr : (ruleDl m x).refs = [] := by rw [hrefs, itNs_two, h1, h3, if_neg (by decide), h4]; rfl
   have hkd : (ruleDl m x).kind = 15 := by show 10 + x.kind = 15; omega
   unfold ruleOk at hx2
   simp only [hk, if_true, Bool.and_eq_true, decide_eq_true_eq, Bool.not_eq_true', if_neg (show ¬ ((5 : Int) = 0) by decide), if_neg (show ¬ ((5 : Int) = 1) by decide), if_neg (show ¬ ((5 : Int) = 2) by decide), if_neg (show ¬ ((5 : Int) = 3) by decide), if_neg (show ¬ ((5 : Int) = 4) by decide)] at hx2
   refine validD_of (f := ⟨(⟨#[100, 105, 115, 116, 117, 114, 98]⟩ : ByteArray), false, 0, 0, 1, zeroI, false⟩) (by rw [hkd]; rfl) rfl (by rw [hr]; exact ⟨Nat.le_refl 0, Nat.le_refl 0⟩) (by show (numsR x).length = 1; unfold numsR; rw [hk]; rfl) (by show zeroI x.by_ = true; simp [zeroI, hx2.1.1.1.2]) (.inr hx2.1.1.2) (.inl rfl) (by rw [hr]; simp) (by show ∀ n ∈ numsR x, _; unfold numsR; rw [hk]; simpa using numOk_of hn.1 (by omega))
theorem valid_itemD {m : Mod} (hv : validM m = true) {x : ItemM} (hx : x ∈ m.iT) : validD (itemD m x) = true := by
 have hok := v_item hv hx
 simp only [itemOk, Bool.and_eq_true] at hok
 obtain ⟨⟨⟨⟨hinc, hl⟩, hs⟩, hh⟩, hkb⟩ := hok
 obtain ⟨q1, q2, q3⟩ := v_inc hinc
 have hol := valid_on hv hx
 have h7 : ∀ r ∈ (itemD m x).refs, isName r = true := by
  intro r hr
  obtain ⟨k, hk, rfl⟩ := List.mem_map.1 (show r ∈ x.on.map (mchN m) from hr)
  exact nm_mach hv (q2 k hk)
 have hlen : (itemD m x).refs.length = x.on.length := by show (x.on.map (mchN m)).length = _; simp
 have hh2 : numOk x.share = true := by
  simp only [wiI, Bool.and_eq_true, decide_eq_true_eq] at hh
  exact numOk_of (by omega) hh.2
 unfold itemKindB at hkb
 split at hkb
 · rename_i e
   refine validD_of (f := ⟨(⟨#[103, 114, 111, 117, 112]⟩ : ByteArray), true, 1, 16, 3, zeroI, false⟩) (by show form? (5 + x.kind) = _; rw [e]; rfl) (ne_dec (nm_itemx hv hx)) (by rw [hlen]; exact ⟨q1, hol⟩) (by show (((if x.kind = 1 then [x.count] else []) : List Int) ++ _).length = 3; rw [e]; rfl) rfl (.inr rfl) (.inr (nm_itemx hv hx)) h7 ?_
   show ∀ n ∈ ((if x.kind = 1 then [x.count] else []) : List Int) ++ [x.load, x.size, x.share], _
   rw [e]
   simp [wi_num hl, wi_num hs, hh2]
 split at hkb
 · rename_i e
   simp only [wiI, Bool.and_eq_true, decide_eq_true_eq] at hkb
   refine validD_of (f := ⟨(⟨#[112, 111, 111, 108]⟩ : ByteArray), true, 1, 16, 4, zeroI, false⟩) (by show form? (5 + x.kind) = _; rw [e]; rfl) (ne_dec (nm_itemx hv hx)) (by rw [hlen]; exact ⟨q1, hol⟩) (by show (((if x.kind = 1 then [x.count] else []) : List Int) ++ _).length = 4; rw [e]; rfl) rfl (.inr rfl) (.inr (nm_itemx hv hx)) h7 ?_
   show ∀ n ∈ ((if x.kind = 1 then [x.count] else []) : List Int) ++ [x.load, x.size, x.share], _
   rw [e]
   have hc : numOk x.count = true := numOk_of (by omega) (by omega)
   simp [wi_num hl, wi_num hs, hh2, hc]
 split at hkb
 · rename_i e
   simp only [Bool.and_eq_true, decide_eq_true_eq] at hkb
   refine validD_of (f := ⟨(⟨#[106, 111, 98]⟩ : ByteArray), true, 1, 1, 3, zeroI, false⟩) (by show form? (5 + x.kind) = _; rw [e]; rfl) (ne_dec (nm_itemx hv hx)) (by rw [hlen, hkb.2]; decide) (by show (((if x.kind = 1 then [x.count] else []) : List Int) ++ _).length = 3; rw [e]; rfl) rfl (.inr rfl) (.inr (nm_itemx hv hx)) h7 ?_
   show ∀ n ∈ ((if x.kind = 1 then [x.count] else []) : List Int) ++ [x.load, x.size, x.share], _
   rw [e]
   simp [wi_num hl, wi_num hs, hh2]
 · cases hkb
theorem valid_part {m : Mod} (hv : validM m = true) {s : Int} {d : Decl} (hd : d ∈ partM m s) : validD d = true := by
 unfold partM at hd
 split at hd
 · obtain ⟨x, hx, rfl⟩ := List.mem_map.1 hd
   have hn := (names_nodup hv).2 x (part_sub (s := 0) (by show x ∈ m.sT; exact hx))
   exact validD_of (f := ⟨(⟨#[115, 105, 116, 101]⟩ : ByteArray), true, 0, 0, 0, zeroI, false⟩) rfl (ne_dec hn) ⟨Nat.le_refl 0, Nat.le_refl 0⟩ rfl rfl (.inr rfl) (.inr hn) (by simp [siteD]) (by simp [siteD])
 split at hd
 · obtain ⟨x, hx, rfl⟩ := List.mem_map.1 hd
   have hn := (names_nodup hv).2 x (part_sub (s := 1) (by show x ∈ m.fT; exact hx))
   exact validD_of (f := ⟨(⟨#[102, 101, 101, 100]⟩ : ByteArray), true, 0, 0, 0, zeroI, false⟩) rfl (ne_dec hn) ⟨Nat.le_refl 0, Nat.le_refl 0⟩ rfl rfl (.inr rfl) (.inr hn) (by simp [feedD]) (by simp [feedD])
 split at hd
 · obtain ⟨x, hx, rfl⟩ := List.mem_map.1 hd
   have hn := nm_rackx hv hx
   obtain ⟨h1, h2⟩ := v_rack hv hx
   exact validD_of (f := ⟨(⟨#[114, 97, 99, 107]⟩ : ByteArray), true, 2, 2, 0, zeroI, false⟩) rfl (ne_dec hn) ⟨Nat.le_refl 2, Nat.le_refl 2⟩ rfl rfl (.inr rfl) (.inr hn) (by simp [rackD, nm_site hv h1, nm_feed hv h2]) (by simp [rackD])
 split at hd
 · obtain ⟨x, hx, rfl⟩ := List.mem_map.1 hd
   have hn := nm_machx hv hx
   obtain ⟨h1, h2⟩ := v_mach hv hx
   exact validD_of (f := ⟨(⟨#[109, 97, 99, 104, 105, 110, 101]⟩ : ByteArray), true, 1, 1, 1, zeroI, false⟩) rfl (ne_dec hn) ⟨Nat.le_refl 1, Nat.le_refl 1⟩ rfl rfl (.inr rfl) (.inr hn) (by simp [machD, nm_rack hv h1]) (by simp [machD, wi_num h2])
 split at hd
 · obtain ⟨x, hx, rfl⟩ := List.mem_map.1 hd
   obtain ⟨h1, h2, _, h4⟩ := v_link hv hx
   exact validD_of (f := ⟨(⟨#[108, 105, 110, 107]⟩ : ByteArray), false, 2, 2, 1, zeroI, false⟩) rfl rfl ⟨Nat.le_refl 2, Nat.le_refl 2⟩ rfl rfl (.inr rfl) (.inl rfl) (by simp [linkD, nm_site hv h1, nm_site hv h2]) (by simp [linkD, wi_num h4])
 split at hd
 · obtain ⟨x, hx, rfl⟩ := List.mem_map.1 hd
   exact valid_itemD hv hx
 split at hd
 · obtain rfl := List.mem_singleton.1 hd
   obtain ⟨h1, h2, h3, _, _⟩ := v_sizes hv
   exact validD_of (f := ⟨(⟨#[100, 97, 114, 107]⟩ : ByteArray), false, 1, 1, 2, zeroI, false⟩) rfl rfl ⟨Nat.le_refl 1, Nat.le_refl 1⟩ rfl rfl (.inr rfl) (.inl rfl) (by simp [darkD, nm_site hv h1]) (by simp [darkD, numOk_of (show 0 ≤ m.oT by omega) (show m.oT ≤ 1048576 by omega), numOk_of h3.1 (show m.vT ≤ 1048576 by omega)])
 split at hd
 · obtain ⟨_, _, _, h4, h5⟩ := v_sizes hv
   unfold failD at hd
   split at hd
   · rename_i h0
     obtain rfl := List.mem_singleton.1 hd
     exact validD_of (f := ⟨(⟨#[102, 97, 105, 108, 117, 114, 101, 115]⟩ : ByteArray), false, 0, 0, 0, fun n => decide (1 ≤ n) && decide (n ≤ 7), false⟩) rfl rfl (by simp) rfl (by show (decide (1 ≤ m.aT) && decide (m.aT ≤ 7)) = true; simp; omega) (.inr rfl) (.inl rfl) (by simp) (by simp)
   · cases hd
 split at hd
 · obtain ⟨x, hx, rfl⟩ := List.mem_map.1 hd
   exact valid_ruleDl hv (v_rule hv hx)
 · cases hd
theorem sect_of_kind {d : Decl} (h : d.kind = 8 ∨ d.kind = 9) : sectI d.kind = d.kind := by
 rcases h with e | e <;> rw [e] <;> rfl
theorem dark_there {l : List Decl} {m : Mod} (h : ∀ s, l.filter (secB s) = partM m s) : l.any (fun d => decide (d.kind = 8)) = true := by
 have : darkD m ∈ l := by
  have h8 := h 8
  have h2 : darkD m ∈ l.filter (secB 8) := by rw [h8]; exact List.mem_singleton.2 rfl
  exact (List.mem_filter.1 h2).1
 exact List.any_eq_true.2 ⟨_, this, rfl⟩
section
variable {l : List Decl} {m : Mod} (h : ∀ s, l.filter (secB s) = partM m s) (hv : validM m = true)
include h hv
theorem no_clash : l.Pairwise fun a b => clashB b a = false := by
 rw [List.pairwise_iff_forall_sublist]
 intro a b hab
 have ha : a ∈ l := hab.subset (by simp)
 have hb : b ∈ l := hab.subset (by simp)
 have two : ∀ s, sectI a.kind = s → sectI b.kind = s → [a, b].Sublist (partM m s) := fun s h1 h2 => by
  have := hab.filter (secB s)
  rw [h s, filter_hd, if_pos h1, filter_hd, if_pos h2, List.filter_nil] at this
  exact this
 rw [Bool.eq_false_iff]
 intro hc
 simp only [clashB, Bool.or_eq_true, Bool.and_eq_true, decide_eq_true_eq] at hc
 rcases hc with ⟨h1, h2⟩ | ⟨h1, h2⟩
 · have pa := (part_name ((mem_sec h).1 ha)).resolve_right (by rw [h2]; exact h1)
   have pb := (part_name ((mem_sec h).1 hb)).resolve_right h1
   rw [h2] at pa
   have hs := part_one hv pa pb
   have hsub := two _ hs rfl
   have hN := part_names ((mem_sec h).1 hb) h1
   have hnd := partN_nodup hv (sectI b.kind)
   rw [← hN] at hnd
   have := (hsub.map (·.name)).nodup hnd
   simp [h2] at this
 · have hsb := sect_of_kind h1
   have hsa : sectI a.kind = b.kind := by rw [h2]; exact hsb
   have hl := (two b.kind hsa hsb).length_le
   rcases h1 with e | e
   · rw [e] at hl
     have : (partM m 8).length = 1 := rfl
     rw [this] at hl
     simp at hl
   · rw [e] at hl
     have : (partM m 9).length ≤ 1 := by show (failD m).length ≤ 1; unfold failD; split <;> simp
     have h3 : [a, b].length = 2 := rfl
     omega
theorem collect_sec : collectR l = none := by
 unfold collectR
 rw [firstBad_none]
 intro i hi
 rw [List.getElem?_eq_getElem hi]
 have hd := List.getElem_mem hi
 have hval := valid_part hv ((mem_sec h).1 hd)
 have hcl : (l.take i).any (clashB l[i]) = false := by
  rw [List.any_eq_false]
  intro e he
  obtain ⟨j, hj, rfl⟩ := List.getElem_of_mem he
  have hji : j < i := by simp at hj; omega
  rw [List.getElem_take, (List.pairwise_iff_getElem.1 (no_clash h hv)) j i (by omega) hi hji]
  decide
 show firstE (l.take i) l[i] = 0
 unfold firstE
 rw [hval, hcl]
 rfl
theorem second_sec : checkR l = none := by
 unfold checkR
 rw [firstBad_none]
 intro i hi
 rw [List.getElem?_eq_getElem hi]
 exact check_sec h hv ((mem_sec h).1 (List.getElem_mem hi))
theorem model_sec : modelR l = (m, 0, 0) := by
 unfold modelR
 rw [collect_sec h hv, second_sec h hv]
 simp only
 rw [dark_there h, build_sec h hv, hv]
 rfl
end
theorem model_decls {m : Mod} (hv : validM m = true) : modelR (declsM m) = (m, 0, 0) := model_sec (decls_sec hv) hv
theorem model_valid {l : List Decl} (h : (modelR l).2.2 = 0) : validM (modelR l).1 = true ∧ (modelR l).2.1 = 0 := by
 unfold modelR at h ⊢
 split at h
 · rename_i x hx
   obtain ⟨_, _, h0, _⟩ := firstBad_is (k := x.1) (e := x.2) (by unfold collectR at hx; exact hx)
   have := (firstBad_is (k := x.1) (e := x.2) (by unfold collectR at hx; exact hx)).2.1
   simp only at h
   exact absurd (this.symm.trans h) h0
 · split at h
   · rename_i x hx
     obtain ⟨_, h1, h0, _⟩ := firstBad_is (k := x.1) (e := x.2) (by unfold checkR at hx; exact hx)
     simp only at h
     exact absurd (h1.symm.trans h) h0
   · split at h
     · simp at h
     · split at h
       · simp at h
       · rename_i h1 h2
         rw [if_neg h1, if_neg h2]
         exact ⟨by simpa using h2, rfl⟩
theorem model_error {l : List Decl} (h : (modelR l).2.2 ≠ 0) : (modelR l).1 = zeroM ∧ 0 ≤ (modelR l).2.1 ∧ (modelR l).2.1 ≤ l.length := by
 unfold modelR at h ⊢
 cases hc : collectR l with
 | some x =>
   have := (firstBad_is (k := x.1) (e := x.2) (by unfold collectR at hc; exact hc)).1
   exact ⟨rfl, by simp, by simp; omega⟩
 | none =>
   rw [hc] at h
   cases hk : checkR l with
   | some x =>
     have := (firstBad_is (k := x.1) (e := x.2) (by unfold checkR at hk; exact hk)).1
     exact ⟨rfl, by simp, by simp; omega⟩
   | none =>
     rw [hk] at h
     simp only at h ⊢
     split at h
     · rename_i h1; rw [if_pos h1]; exact ⟨rfl, by simp, Int.le_refl _⟩
     · rename_i h1
       rw [if_neg h1]
       split at h
       · rename_i h2; rw [if_pos h2]; exact ⟨rfl, by simp, Int.le_refl _⟩
       · exact absurd rfl h
theorem decls_mem {m : Mod} (hv : validM m = true) {d : Decl} (hd : d ∈ declsM m) : d ∈ partM m (sectI d.kind) := (mem_sec (decls_sec hv)).1 hd
/-! a declaration left out -/
section
variable {m : Mod} (hv : validM m = true) {A B : List Decl} {d : Decl} (hD : declsM m = A ++ d :: B)
include hv hD
end
end Go.Proofs.YtcfogipaadhbeaaGreatDoor
