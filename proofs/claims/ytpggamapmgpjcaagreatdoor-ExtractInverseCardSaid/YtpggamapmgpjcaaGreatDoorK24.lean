/- The walks of catalog.each with the collector of the names, and of catalog.Names. Conditions: lengths that fit memory. The walks of exodusref15.names, Machines: whether names are names and different; whether a list names machines. Conditions: lengths that fit memory. -/
import Derived.Test.YtpggamapmgpjcaaGreatDoorK08
import Derived.IntWalk
import Derived.Laws.EntriesVeiled
import Derived.Test.YtpggamapmgpjcaaGreatDoorK06
import Derived.Deep.RegionHeld3

namespace Go.Proofs.YtpggamapmgpjcaaGreatDoor
open Go Go.RowKit Go.Proofs

/-- the cells of the five lists that each goes through -/
def listCells (m : Mod) (bm : Nat) (j : Nat) : List Value := [.int .i64 ((nml m j).length : Int), .func (.func (gNm j)) #[] #[.pointer (some ⟨bm, 0, none⟩)], .func (.func (gKd j)) #[] (lKd j bm)]
theorem MD.but {w w' : World} {B0 g B : Nat} {h : MH} {m : Mod} (d : MD w B0 h m) (hb : But g B w w') (h1 : B0 ≤ B) (h2 : B0 ≤ g) : MD w' B0 h m := d.below (hb.below2 h1 h2)
theorem But.blk2 {k : Nat} {T : TypeId} {cs : Array Value} {w w' : World} (hb : Below w.heap.size w w') (hk : Blk w k T cs) : Blk w' k T cs := hk.below hb hk.lt
theorem Blk.eqCells {w : World} {g : Nat} {t : TypeId} {cs cs' : Array Value} (h : Blk w g t cs) (e : cs = cs') : Blk w g t cs' := e ▸ h
/-- the state between two names -/
structure EachS (w : World) (bo B0 : Nat) (h : MH) (m : Mod) (L : List ByteArray) (wr : World) : Prop where
  coll : Coll w.heap.size bo wr L
  but : But bo w.heap.size w wr
  bm : Blk wr w.heap.size 29 #[.slice h.s m.sites.length h.sc, .slice h.f m.feeds.length h.fc, .slice h.r m.racks.length h.rc, .slice h.m m.machs.length h.mc, .slice h.l m.links.length h.lc, .slice h.i m.items.length h.ic, .int .i64 m.dark, .int .i64 m.slots, .int .i64 m.reserve, .int .i64 m.failures, .slice h.u m.rules.length h.uc]
  bl : Blk wr (w.heap.size + 1) 165 ((listCells m w.heap.size 0 ++ listCells m w.heap.size 1 ++ listCells m w.heap.size 2 ++ listCells m w.heap.size 3 ++ listCells m w.heap.size 4).toArray)
  d : MD wr B0 h m
theorem EachS.grow {w wr w2 : World} {bo B0 : Nat} {h : MH} {m : Mod} {L : List ByteArray} (s : EachS w bo B0 h m L wr) (hb : Below wr.heap.size wr w2) (hB : B0 ≤ w.heap.size) : EachS w bo B0 h m L w2 :=
  ⟨s.coll.keep hb, s.but.trans (But.ofBelow (hb.mono s.but.size)), s.bm.below hb s.bm.lt, s.bl.below hb s.bl.lt, s.d.below (hb.mono (Nat.le_trans hB s.but.size))⟩
theorem EachS.one {w wr w2 : World} {bo B0 : Nat} {h : MH} {m : Mod} {L L2 : List ByteArray} {e : Ending} (s : EachS w bo B0 h m L wr) (hc : CollP w.heap.size bo L2 wr e w2) (hB : B0 ≤ w.heap.size) (h2 : B0 ≤ bo) (h3 : bo < w.heap.size) : EachS w bo B0 h m L2 w2 :=
  ⟨hc.2.1, s.but.trans hc.2.2.1, hc.2.2.2 _ _ _ (by omega) (by decide) s.bm, hc.2.2.2 _ _ _ (by omega) (by decide) s.bl, s.d.but hc.2.2.1 hB h2⟩
theorem EachS.list {w wr : World} {bo B0 : Nat} {h : MH} {m : Mod} {L : List ByteArray} (s : EachS w bo B0 h m L wr) {j : Nat} (hj : j < 5) :
    wr.cell? ⟨w.heap.size + 1, j * 3, none⟩ = some (.int .i64 ((nml m j).length : Int)) ∧ wr.cell? ⟨w.heap.size + 1, j * 3 + 1, none⟩ = some (.func (.func (gNm j)) #[] #[.pointer (some ⟨w.heap.size, 0, none⟩)]) ∧ wr.cell? ⟨w.heap.size + 1, j * 3 + 2, none⟩ = some (.func (.func (gKd j)) #[] (lKd j w.heap.size)) := by
  have hc := fun i => s.bl.cell i
  match j, hj with
  | 0, _ => exact ⟨hc 0, hc 1, hc 2⟩
  | 1, _ => exact ⟨hc 3, hc 4, hc 5⟩
  | 2, _ => exact ⟨hc 6, hc 7, hc 8⟩
  | 3, _ => exact ⟨hc 9, hc 10, hc 11⟩
  | 4, _ => exact ⟨hc 12, hc 13, hc 14⟩
theorem nml_len {m : Mod} (q1 : m.sites.length ≤ 100) (q2 : m.feeds.length ≤ 100) (q3 : m.racks.length ≤ 100) (q4 : m.machs.length ≤ 100) (q5 : m.items.length ≤ 100) (j : Nat) : (nml m j).length ≤ 100 := by
  match j with
  | 0 => exact q1
  | 1 => exact q2
  | 2 => simpa [nml] using q3
  | 3 => simpa [nml] using q4
  | n + 4 => simpa [nml] using q5
theorem preN_len {m : Mod} (h : ∀ j, (nml m j).length ≤ 100) : ∀ j, (preN m j).length ≤ 100 * j
  | 0 => by simp [preN]
  | j + 1 => by
    have := preN_len h j
    have := h j
    rw [← preN_succ, List.length_append]; omega

theorem listAll (m : Mod) (w : World) : (#[.int .i64 m.sites.length, .func (.func 116) #[] #[.pointer (some ⟨w.heap.size, 0, none⟩)], .func (.func 117) #[] #[], .int .i64 m.feeds.length, .func (.func 118) #[] #[.pointer (some ⟨w.heap.size, 0, none⟩)], .func (.func 119) #[] #[], .int .i64 m.racks.length, .func (.func 120) #[] #[.pointer (some ⟨w.heap.size, 0, none⟩)], .func (.func 121) #[] #[], .int .i64 m.machs.length, .func (.func 122) #[] #[.pointer (some ⟨w.heap.size, 0, none⟩)], .func (.func 123) #[] #[], .int .i64 m.items.length, .func (.func 124) #[] #[.pointer (some ⟨w.heap.size, 0, none⟩)], .func (.func 125) #[] #[.pointer (some ⟨w.heap.size, 0, none⟩)]] : Array Value) = ((listCells m w.heap.size 0 ++ listCells m w.heap.size 1 ++ listCells m w.heap.size 2 ++ listCells m w.heap.size 3 ++ listCells m w.heap.size 4).toArray) := by simp [listCells, nml, gNm, gKd, lKd]
theorem two_blocks (w : World) (c1 c2 : Array Value) (t1 t2 : TypeId) : Below w.heap.size w ((w.alloc (.cells c1 t1)).alloc (.cells c2 t2)) := ((Below.refl _ _).alloc (Nat.le_refl _) _).alloc (by simp) _
set_option maxRecDepth 100000 in
set_option maxHeartbeats 8000000 in
theorem each_names (h : MH) (m : Mod) (bo B0 : Nat) (w : World) (d : MD w B0 h m) (h0 : B0 ≤ bo) (hC : Coll w.heap.size bo w []) (hbo : bo < w.heap.size)
    (q1 : m.sites.length ≤ 100) (q2 : m.feeds.length ≤ 100) (q3 : m.racks.length ≤ 100) (q4 : m.machs.length ≤ 100) (q5 : m.items.length ≤ 100) :
    Calls Tryz.prog 78 #[.agg #[.slice h.s m.sites.length h.sc, .slice h.f m.feeds.length h.fc, .slice h.r m.racks.length h.rc, .slice h.m m.machs.length h.mc, .slice h.l m.links.length h.lc, .slice h.i m.items.length h.ic, .int .i64 m.dark, .int .i64 m.slots, .int .i64 m.reserve, .int .i64 m.failures, .slice h.u m.rules.length h.uc], .func (.func 79) #[] #[.pointer (some ⟨bo, 0, none⟩)]] w
      fun e w' => e = .returned (.tuple #[]) ∧ Coll w.heap.size bo w' (nameList m) ∧ But bo w.heap.size w w' := by
  have hln := nml_len q1 q2 q3 q4 q5
  have hlp := preN_len hln
  have HLN := hide hln
  have HLP := hide hlp
  have hB2 := two_blocks w #[.slice h.s m.sites.length h.sc, .slice h.f m.feeds.length h.fc, .slice h.r m.racks.length h.rc, .slice h.m m.machs.length h.mc, .slice h.l m.links.length h.lc, .slice h.i m.items.length h.ic, .int .i64 m.dark, .int .i64 m.slots, .int .i64 m.reserve, .int .i64 m.failures, .slice h.u m.rules.length h.uc] #[.int .i64 m.sites.length, .func (.func 116) #[] #[.pointer (some ⟨w.heap.size, 0, none⟩)], .func (.func 117) #[] #[], .int .i64 m.feeds.length, .func (.func 118) #[] #[.pointer (some ⟨w.heap.size, 0, none⟩)], .func (.func 119) #[] #[], .int .i64 m.racks.length, .func (.func 120) #[] #[.pointer (some ⟨w.heap.size, 0, none⟩)], .func (.func 121) #[] #[], .int .i64 m.machs.length, .func (.func 122) #[] #[.pointer (some ⟨w.heap.size, 0, none⟩)], .func (.func 123) #[] #[], .int .i64 m.items.length, .func (.func 124) #[] #[.pointer (some ⟨w.heap.size, 0, none⟩)], .func (.func 125) #[] #[.pointer (some ⟨w.heap.size, 0, none⟩)]] 29 165
  have hS0 : EachS w bo B0 h m (preN m 0) ((w.alloc (.cells #[.slice h.s m.sites.length h.sc, .slice h.f m.feeds.length h.fc, .slice h.r m.racks.length h.rc, .slice h.m m.machs.length h.mc, .slice h.l m.links.length h.lc, .slice h.i m.items.length h.ic, .int .i64 m.dark, .int .i64 m.slots, .int .i64 m.reserve, .int .i64 m.failures, .slice h.u m.rules.length h.uc] 29)).alloc (.cells #[.int .i64 m.sites.length, .func (.func 116) #[] #[.pointer (some ⟨w.heap.size, 0, none⟩)], .func (.func 117) #[] #[], .int .i64 m.feeds.length, .func (.func 118) #[] #[.pointer (some ⟨w.heap.size, 0, none⟩)], .func (.func 119) #[] #[], .int .i64 m.racks.length, .func (.func 120) #[] #[.pointer (some ⟨w.heap.size, 0, none⟩)], .func (.func 121) #[] #[], .int .i64 m.machs.length, .func (.func 122) #[] #[.pointer (some ⟨w.heap.size, 0, none⟩)], .func (.func 123) #[] #[], .int .i64 m.items.length, .func (.func 124) #[] #[.pointer (some ⟨w.heap.size, 0, none⟩)], .func (.func 125) #[] #[.pointer (some ⟨w.heap.size, 0, none⟩)]] 165)) :=
    ⟨hC.keep hB2, But.ofBelow hB2, (Blk.new _ _ _).alloc _, Blk.eqCells (by simpa using Blk.new (w.alloc (.cells #[.slice h.s m.sites.length h.sc, .slice h.f m.feeds.length h.fc, .slice h.r m.racks.length h.rc, .slice h.m m.machs.length h.mc, .slice h.l m.links.length h.lc, .slice h.i m.items.length h.ic, .int .i64 m.dark, .int .i64 m.slots, .int .i64 m.reserve, .int .i64 m.failures, .slice h.u m.rules.length h.uc] 29)) _ _) (listAll m w), d.below (hB2.mono (by omega))⟩
  have HS0 := hide hS0
  have eN := fun j (hj : j < 5) => enter_nm j hj
  have eK := fun j (hj : j < 5) => enter_kd j hj
  have EN := hide eN
  have EK := hide eK
  clear hln hlp hB2 hS0 eN eK hC d q1 q2 q3 q4 q5
  go_enter Tryz.func78, Tryz.ntmps78
  go_wp2_with fail
  go_loopw [37] (fun i wr => ∃ j : Nat, j ≤ 5 ∧ i = .int .i64 j ∧ Hid (EachS w bo B0 h m (preN m j) wr)) (fun i _ => 5 - (intOf i).toNat)
  case atStart => exact ⟨0, by omega, rfl, HS0⟩
  case round =>
    clear HS0
    obtain ⟨j, hj, rfl, hs⟩ := hrel
    obtain ⟨wo, rfl⟩ : ∃ wo : World, wo = wr := ⟨_, rfl⟩
    by_cases hlt : j < 5
    · obtain ⟨x0, x1, x2⟩ := hs.out.list hlt
      have hltI : (j : Int) < 5 := by omega
      have hbl := hs.out.bl.lt
      go_wp2_with fail
      have HS1 := hide (hs.out.grow ((Below.refl _ _).alloc (Nat.le_refl _) (.cells #[.int .i64 ((nml m j).length : Int), .func (.func (gNm j)) #[] #[.pointer (some ⟨w.heap.size, 0, none⟩)], .func (.func (gKd j)) #[] (lKd j w.heap.size)] 165)) (by omega))
      have HT1 := hide (Blk.new wo 165 #[.int .i64 ((nml m j).length : Int), .func (.func (gNm j)) #[] #[.pointer (some ⟨w.heap.size, 0, none⟩)], .func (.func (gKd j)) #[] (lKd j w.heap.size)])
      have hwo := hs.out.but.size
      clear x0 x1 x2
      go_loopw [43] (fun i wr => ∃ k : Nat, k ≤ (nml m j).length ∧ i = .int .i64 k ∧ Hid (EachS w bo B0 h m (preN m j ++ (nml m j).take k) wr) ∧ Hid (Blk wr wo.heap.size 165 #[.int .i64 ((nml m j).length : Int), .func (.func (gNm j)) #[] #[.pointer (some ⟨w.heap.size, 0, none⟩)], .func (.func (gKd j)) #[] (lKd j w.heap.size)])) (fun i _ => (nml m j).length - (intOf i).toNat)
      case atStart => exact ⟨0, by omega, rfl, by rw [List.take_zero, List.append_nil]; exact HS1, HT1⟩
      case round =>
        clear HS1 HT1
        obtain ⟨k, hk, rfl, hs2, hT⟩ := hrel
        have hn := HLN.out j
        by_cases hkl : k < (nml m j).length
        · have y1 := hT.out.cell 1
          have y2 := hT.out.cell 2
          have ylt := hT.out.lt
          simp at y1 y2
          have hsd := hs2.out.grow (below_drawn (Below.refl _ wr) 1) (by omega)
          have HD := hide hsd
          have HN := hide (show Calls Tryz.prog (gNm j) #[.int .i64 k, .pointer (some ⟨w.heap.size, 0, none⟩)] wr.drew (fun e w' => e = .returned (.string (nml m j)[k]) ∧ wr.drew = w') from name_any h m w.heap.size B0 k j hlt (wr.drewN 1) hsd.bm hsd.d hkl)
          have HK := hide (show Calls Tryz.prog (gKd j) (#[.int .i64 k] ++ lKd j w.heap.size) wr.drew (SomeI wr.drew) from kind_any h m w.heap.size B0 k j hlt (wr.drewN 1) hsd.bm hsd.d hkl)
          have hlen : (preN m j ++ (nml m j).take k).length ≤ 1000 := by
            have := HLP.out j
            rw [List.length_append, List.length_take]; omega
          have HO := hide (show ∀ n, Calls Tryz.prog 79 #[.string (nml m j)[k], .int .i64 n, .int .i64 ((k : Int) + 1), .pointer (some ⟨bo, 0, none⟩)] wr.drew (CollP w.heap.size bo (preN m j ++ (nml m j).take k ++ [(nml m j)[k]]) wr.drew) from fun n => names_one w.heap.size bo (nml m j)[k] n ((k : Int) + 1) (preN m j ++ (nml m j).take k) (wr.drewN 1) hsd.coll hbo hlen hsd.but.size)
          have HE := hide (show preN m j ++ (nml m j).take k ++ [(nml m j)[k]] = preN m j ++ (nml m j).take (k + 1) by rw [List.take_succ_eq_append_getElem hkl, List.append_assoc])
          have eN := EN.out j hlt
          have eK := EK.out j hlt
          have hw1 : IntKind.i64.wrap ((k : Int) + 1) = (k : Int) + 1 := IntWalk.i64_in _ (by omega)
          clear hsd hlen
          go_wp2_with fail
          go_region_with ((first
            | ((with_reducible refine Calls.mono HN.out ?_); rintro e w1 ⟨rfl, rfl⟩)
            | ((with_reducible refine Calls.mono HK.out ?_); rintro e w1 ⟨n, rfl, rfl⟩)
            | ((with_reducible refine Calls.mono (HO.out n) ?_); rintro e w9 hc9; have hS9 := HD.out.one hc9 (by omega) h0 hbo; have hT9 := hc9.2.2.2 _ _ _ (by omega) (by decide) (hT.out.drewN 1); obtain ⟨rfl, _⟩ := hc9)))
          all_goals
            rw [HE.out] at hS9
            go_wp2_with fail
            go_roundw
            case rel => exact ⟨k + 1, by omega, by go_num, hS9, hT9⟩
            case measure => simp [intOf]; omega
        · obtain rfl : k = (nml m j).length := by omega
          have HE := hide (show preN m j ++ (nml m j).take (nml m j).length = preN m (j + 1) by rw [List.take_length, preN_succ])
          go_wp2_with fail
          go_roundw
          case rel => exact ⟨j + 1, by omega, by go_num, by rw [← HE.out]; exact hs2⟩
          case measure => simp [intOf]; omega
    · obtain rfl : j = 5 := by omega
      go_wp2_with fail
      go_end0
      refine ⟨rfl, ?_, hs.out.but⟩
      have := hs.out.coll
      rwa [preN_5] at this
end Go.Proofs.YtpggamapmgpjcaaGreatDoor

namespace Go.Proofs.YtpggamapmgpjcaaGreatDoor
open Go Go.RowKit Go.Proofs

theorem Strs.take_ {w : World} {B : Nat} {A : Option Addr} {l : List ByteArray} (h : Strs w B A l) {k : Nat} (hk : k ≤ l.length) : Strs w B A (l.take k) := by
  refine ⟨by simp, fun hn => ?_⟩
  have hl : (l.take k).length = k := by simp; omega
  obtain ⟨ad, e, hb, hc⟩ := h.2 (by omega)
  refine ⟨ad, e, hb, fun j u hu => hc j u ?_⟩
  rw [List.getElem?_map] at hu ⊢
  by_cases hj : j < k
  · rwa [List.getElem?_take_of_lt hj] at hu
  · rw [List.getElem?_eq_none (by simp; omega)] at hu; cases hu

set_option maxRecDepth 100000 in
set_option maxHeartbeats 8000000 in
theorem namesB_ref (h : MH) (m : Mod) (w : World) (d : MD w w.heap.size h m) (q1 : m.sites.length ≤ 100) (q2 : m.feeds.length ≤ 100) (q3 : m.racks.length ≤ 100) (q4 : m.machs.length ≤ 100) (q5 : m.items.length ≤ 100)
    (hfit : ∀ s ∈ nameList m, s.size ≤ 9223372036854775807) :
    Calls Tryz.prog 105 #[.agg #[.slice h.s m.sites.length h.sc, .slice h.f m.feeds.length h.fc, .slice h.r m.racks.length h.rc, .slice h.m m.machs.length h.mc, .slice h.l m.links.length h.lc, .slice h.i m.items.length h.ic, .int .i64 m.dark, .int .i64 m.slots, .int .i64 m.reserve, .int .i64 m.failures, .slice h.u m.rules.length h.uc]] w fun e w' => e = .returned (.bool (namesB m)) ∧ Below w.heap.size w w' := by
  have HC := hide (names15_ref h m (w.alloc (.cells #[.slice h.s m.sites.length h.sc, .slice h.f m.feeds.length h.fc, .slice h.r m.racks.length h.rc, .slice h.m m.machs.length h.mc, .slice h.l m.links.length h.lc, .slice h.i m.items.length h.ic, .int .i64 m.dark, .int .i64 m.slots, .int .i64 m.reserve, .int .i64 m.failures, .slice h.u m.rules.length h.uc] 29)) ((MW.start w h m).md d) q1 q2 q3 q4 q5)
  have hlen : (nameList m).length ≤ 600 := by rw [← nmI_all]; exact (nm_len q1 q2 q3 q4 q5 _).2.2
  have HN := hide (show namesB m = soundB (fun s pre => isName s && !hasS pre s) (nameList m) from rfl)
  clear q1 q2 q3 q4 q5 d
  generalize nameList m = L at HC hfit hlen HN
  go_enter Tryz.func105, Tryz.ntmps105
  go_wp2_with (go_at_call 165; refine HC.out.mono ?_; rintro e w1 ⟨A, c, rfl, hc, hS, hb1⟩)
  have hB1 := hide (((Below.refl _ _).alloc (Nat.le_refl _) (.cells #[.slice h.s m.sites.length h.sc, .slice h.f m.feeds.length h.fc, .slice h.r m.racks.length h.rc, .slice h.m m.machs.length h.mc, .slice h.l m.links.length h.lc, .slice h.i m.items.length h.ic, .int .i64 m.dark, .int .i64 m.slots, .int .i64 m.reserve, .int .i64 m.failures, .slice h.u m.rules.length h.uc] 29)).trans (hb1.mono (by simp)) : Below w.heap.size w w1)
  clear hb1
  go_loopw [4] (fun i wr => ∃ k : Nat, k ≤ L.length ∧ i = .int .i64 k ∧ Hid (Below w.heap.size w wr) ∧ Hid (Strs wr wr.heap.size A L) ∧ Hid (∀ j (hj : j < L.length), j < k → (isName L[j] && !hasS (L.take j) L[j]) = true)) (fun i _ => L.length - (intOf i).toNat)
  case atStart => exact ⟨0, Nat.zero_le _, rfl, hB1, hS, fun j hj h0 => absurd h0 (by omega)⟩
  case round =>
    obtain ⟨k, hk, rfl, hB, hS, hs⟩ := hrel
    clear HC
    by_cases hlt : k < L.length
    · obtain ⟨b, off, hA, hb, x0⟩ := str_at hS.out hlt
      subst hA
      have hltI : (k : Int) < (L.length : Int) := by omega
      have hfk := hfit _ (List.getElem_mem hlt)
      have hkc : (k : Int) ≤ (c : Int) := by omega
      cases e1 : isName L[k]
      · have HV := hide (HN.out.trans (soundB_false (p := fun s pre => isName s && !hasS pre s) hlt (by simp [e1])))
        have hU : undef = Value.tuple #[] := rfl
        go_wp2_with fail
        first | (go_region_with ((go_at_call 166; refine (isName_ref L[k] _ hfk).mono ?_; rintro e w2 ⟨rfl, hb2⟩))) | fail
        all_goals
          go_wp2_with fail
          go_ret
          exact ⟨ret_congr (by rw [HV.out]; rfl), hB.out.drew.trans (hb2.mono hB.out.size)⟩
      cases e2 : hasS (L.take k) L[k]
      all_goals
        have hlt2 : (L.take k).length = k := by simp; omega
        have HT := hide hlt2
        have HH := hide fun (X : World) (hX : Below wr.heap.size wr X) => has_any (some ⟨b, off, none⟩) c (L.take k) L[k] X (by omega) ((hS.out.grow hX).take_ hk)
        rw [e2, hlt2] at HH
        clear hlt2
        go_wp2_with fail
        first | (go_region_held3 (fun X => X.cell? ⟨b, off + k, none⟩ = some (.string L[k]) ∧ Below wr.heap.size wr X) ((first | (go_keep; done) | (refine ⟨?_, ?_⟩ <;> (first | assumption | exact (Below.refl _ _).drew | exact x0))))
          ((first
            | (go_at_call 166; have hH := (by assumption : _ ∧ Below wr.heap.size wr _); obtain ⟨a0, aB⟩ := hH; refine (isName_ref L[k] _ hfk).mono ?_; rintro e w2 ⟨rfl, hb2⟩; have c0 := (hb2.cell (p := ⟨b, off + k, none⟩) (Nat.lt_of_lt_of_le hb aB.size)).trans a0; have cB := aB.trans (hb2.mono aB.size); clear a0 aB hb2)
            | (go_at_call 167; refine (HH.out _ (by assumption)).mono ?_; rintro e w3 ⟨rfl, rfl⟩)))) | fail
      · have HK := hide (show (isName L[k] && !hasS (L.take k) L[k]) = true by rw [e1, e2]; rfl)
        all_goals
          go_wp2_with fail
          go_roundw
          case rel => exact ⟨k + 1, by omega, by go_num, hide (hB.out.trans (cB.mono hB.out.size)), hide (hS.out.grow cB), fun q hq' h1 => by
            rcases Nat.lt_or_ge q k with h2 | h2
            · exact hs q hq' h2
            · obtain rfl : q = k := by omega
              exact HK⟩
          case measure => simp [intOf]; omega
      · have HV := hide (HN.out.trans (soundB_false (p := fun s pre => isName s && !hasS pre s) hlt (by simp [e2])))
        all_goals
          go_wp2_with fail
          go_ret
          exact ⟨ret_congr (by rw [HV.out]; rfl), hB.out.trans (cB.mono hB.out.size)⟩
    · have HV := hide (HN.out.trans (soundB_true (p := fun s pre => isName s && !hasS pre s) fun q hq => hs.out q hq (by omega)))
      go_wp2_with fail
      go_ret
      exact ⟨ret_congr (by rw [HV.out]; rfl), hB.out⟩

end Go.Proofs.YtpggamapmgpjcaaGreatDoor
