/- The walks of moves.link, shapes and the closures of fits. Conditions: lengths that fit memory. -/
import Derived.Test.YtpggamapmgpjcaaGreatDoorK17
import Derived.Test.YtpggamapmgpjcaaGreatDoorK14

namespace Go.Proofs.YtpggamapmgpjcaaGreatDoor
open Go Go.RowKit Go.Proofs

set_option maxRecDepth 100000 in
set_option maxHeartbeats 4000000 in
theorem mlink_prog (h : MH) (m : Mod) (x : ItemM) (A : Option Addr) (c : Nat) (i f t : Int) (w : World) (K : ItC w h m x A) :
    Calls Tryz.prog 98 #[.agg #[.slice h.s m.sites.length h.sc, .slice h.f m.feeds.length h.fc, .slice h.r m.racks.length h.rc, .slice h.m m.machs.length h.mc, .slice h.l m.links.length h.lc, .slice h.i m.items.length h.ic, .int .i64 m.dark, .int .i64 m.slots, .int .i64 m.reserve, .int .i64 m.failures, .slice h.u m.rules.length h.uc], .agg #[.int .i64 i, .int .i64 f, .int .i64 t], .agg #[.string x.name, .int .i64 x.kind, .int .i64 x.count, .int .i64 x.load, .int .i64 x.size, .int .i64 x.share, .slice A x.on.length c]] w (AnsB w (.int .i64 (linkY m x f t))) := by
  have hs := F3.start w #[.slice h.s m.sites.length h.sc, .slice h.f m.feeds.length h.fc, .slice h.r m.racks.length h.rc, .slice h.m m.machs.length h.mc, .slice h.l m.links.length h.lc, .slice h.i m.items.length h.ic, .int .i64 m.dark, .int .i64 m.slots, .int .i64 m.reserve, .int .i64 m.failures, .slice h.u m.rules.length h.uc] #[.int .i64 i, .int .i64 f, .int .i64 t] #[.string x.name, .int .i64 x.kind, .int .i64 x.count, .int .i64 x.load, .int .i64 x.size, .int .i64 x.share, .slice A x.on.length c]
  have HS := hide hs
  have HV := hide (show linkY m x f t = linkI m (domI m 4 (srcI x f)) (domI m 4 t) from rfl)
  have HP := hide (fun (k : Int) W (hW : Below w.heap.size w W) => place_prog h m k W (K.d.grow hW))
  have HL := hide (fun (a b : Int) W (hW : Below w.heap.size w W) => link_prog h m a b W (K.d.grow hW))
  have HSR := hide (fun W (hW : Below w.heap.size w W) => source_prog x A c i f t W (K.i.grow hW) K.p K.l)
  obtain ⟨s1, hs1⟩ : ∃ s, s = srcI x f := ⟨_, rfl⟩
  rw [← hs1] at HV HSR
  have HP1 := hide (HP.out s1)
  have HP2 := hide (HP.out t)
  obtain ⟨p1, hp1⟩ : ∃ s, s = domI m 4 s1 := ⟨_, rfl⟩
  obtain ⟨p2, hp2⟩ : ∃ s, s = domI m 4 t := ⟨_, rfl⟩
  rw [← hp1] at HV HP1
  rw [← hp2] at HV HP2
  have HL2 := hide (HL.out p1 p2)
  clear K hs hs1 hp1 hp2 HP HL
  go_enter Tryz.func98, Tryz.ntmps98
  go_wp2_with fail
  go_region_held3 (fun W => ((W.cell? ⟨w.heap.size, 0, none⟩ = some (.slice h.s m.sites.length h.sc) ∧ W.cell? ⟨w.heap.size, 1, none⟩ = some (.slice h.f m.feeds.length h.fc) ∧ W.cell? ⟨w.heap.size, 2, none⟩ = some (.slice h.r m.racks.length h.rc) ∧ W.cell? ⟨w.heap.size, 3, none⟩ = some (.slice h.m m.machs.length h.mc) ∧ W.cell? ⟨w.heap.size, 4, none⟩ = some (.slice h.l m.links.length h.lc) ∧ W.cell? ⟨w.heap.size, 5, none⟩ = some (.slice h.i m.items.length h.ic) ∧ W.cell? ⟨w.heap.size, 6, none⟩ = some (.int .i64 m.dark) ∧ W.cell? ⟨w.heap.size, 7, none⟩ = some (.int .i64 m.slots) ∧ W.cell? ⟨w.heap.size, 8, none⟩ = some (.int .i64 m.reserve) ∧ W.cell? ⟨w.heap.size, 9, none⟩ = some (.int .i64 m.failures) ∧ W.cell? ⟨w.heap.size, 10, none⟩ = some (.slice h.u m.rules.length h.uc)) ∧ (W.cell? ⟨w.heap.size + 1, 0, none⟩ = some (.int .i64 i) ∧ W.cell? ⟨w.heap.size + 1, 1, none⟩ = some (.int .i64 f) ∧ W.cell? ⟨w.heap.size + 1, 2, none⟩ = some (.int .i64 t)) ∧ (W.cell? ⟨w.heap.size + 1 + 1, 0, none⟩ = some (.string x.name) ∧ W.cell? ⟨w.heap.size + 1 + 1, 1, none⟩ = some (.int .i64 x.kind) ∧ W.cell? ⟨w.heap.size + 1 + 1, 2, none⟩ = some (.int .i64 x.count) ∧ W.cell? ⟨w.heap.size + 1 + 1, 3, none⟩ = some (.int .i64 x.load) ∧ W.cell? ⟨w.heap.size + 1 + 1, 4, none⟩ = some (.int .i64 x.size) ∧ W.cell? ⟨w.heap.size + 1 + 1, 5, none⟩ = some (.int .i64 x.share) ∧ W.cell? ⟨w.heap.size + 1 + 1, 6, none⟩ = some (.slice A x.on.length c))) ∧ F3 w #[.slice h.s m.sites.length h.sc, .slice h.f m.feeds.length h.fc, .slice h.r m.racks.length h.rc, .slice h.m m.machs.length h.mc, .slice h.l m.links.length h.lc, .slice h.i m.items.length h.ic, .int .i64 m.dark, .int .i64 m.slots, .int .i64 m.reserve, .int .i64 m.failures, .slice h.u m.rules.length h.uc] #[.int .i64 i, .int .i64 f, .int .i64 t] #[.string x.name, .int .i64 x.kind, .int .i64 x.count, .int .i64 x.load, .int .i64 x.size, .int .i64 x.share, .slice A x.on.length c] W)
    ((with_reducible (first | (go_keep; done) | exact ⟨F3.cells HS.out.drew, HS.out.drew⟩ | exact ⟨F3.cells c4, c4⟩ | exact ⟨F3.cells c3, c3⟩ | exact ⟨F3.cells c2, c2⟩ | exact ⟨F3.cells c1, c1⟩)))
    ((first
      | (go_at_call 150; have hH := HS.out.drew; (with_reducible refine (HSR.out _ (F3.b hH)).mono ?_); rintro e w2 ⟨rfl, hb⟩; have c1 := F3.grow hH hb; clear hb hH)
      | (go_at_call 95; (with_reducible refine (HP1.out _ (F3.b c1)).mono ?_); rintro e w3 ⟨rfl, hb⟩; have c2 := F3.grow c1 hb; clear hb)
      | (go_at_call 95; (with_reducible refine (HP2.out _ (F3.b c2)).mono ?_); rintro e w4 ⟨rfl, hb⟩; have c3 := F3.grow c2 hb; clear hb)
      | (go_at_call 151; (with_reducible refine (HL2.out _ (F3.b c3)).mono ?_); rintro e w5 ⟨rfl, hb⟩; have c4 := F3.grow c3 hb; clear hb)))
  go_wp2_with fail
  go_ret
  exact ⟨ret_congr (by rw [HV.out]; rfl), c4.b⟩
/-- the shapes by the kinds of items -/
def shE : Array MapEntry := #[{ key := .int .i64 0, val := .func (.func 148) #[] #[], born := 0 }, { key := .int .i64 2, val := .func (.func 148) #[] #[], born := 1 }, { key := .int .i64 1, val := .func (.func 149) #[] #[], born := 2 }]
def ShR (w : World) (e : Ending) (w' : World) : Prop := ∃ r, e = .returned (.map (some r)) ∧ w'.heap[r]? = some (.map shE 3) ∧ Below w.heap.size w w'
set_option maxHeartbeats 1000000 in
theorem shapes_prog (w : World) : Calls Tryz.prog 96 #[] w (ShR w) := by
  have HB := hide ((Below.refl w.heap.size w).alloc (Nat.le_refl _) (.map shE 3))
  have hmm := @run_makeMap Tryz.prog
  go_enter Tryz.func96, Tryz.ntmps96
  go_wp2_with (first
    | (refine wpList_insert_new (w0 := w) (es := #[]) (c := 0) (vv := .func (.func 148) #[] #[]) rfl rfl _ _ _ _ rfl Tryz.underlying152 Tryz.underlying3 rfl rfl rfl rfl rfl rfl ?_)
    | (refine wpList_insert_new (w0 := w) (c := 1) (vv := .func (.func 148) #[] #[]) rfl rfl _ _ _ _ rfl Tryz.underlying152 Tryz.underlying3 rfl rfl rfl rfl rfl rfl ?_)
    | (refine wpList_insert_new (w0 := w) (c := 2) (vv := .func (.func 149) #[] #[]) rfl rfl _ _ _ _ rfl Tryz.underlying152 Tryz.underlying3 rfl rfl rfl rfl rfl rfl ?_))
  go_ret
  exact ⟨w.heap.size, rfl, heap_alloc_new w (.map shE 3), HB.out⟩
theorem sh_find0 : Instr.findNow (.int .i64) (.int .i64 0) shE.toList 0 = some (some (0, .func (.func 148) #[] #[])) := rfl
theorem sh_find2 : Instr.findNow (.int .i64) (.int .i64 2) shE.toList 0 = some (some (1, .func (.func 148) #[] #[])) := rfl
theorem sh_find1 : Instr.findNow (.int .i64) (.int .i64 1) shE.toList 0 = some (some (2, .func (.func 149) #[] #[])) := rfl
theorem zero_shape (w : World) : (zeroValue 151).run Tryz.prog w = .ok .nilFunc w := by kernel_rfl
/-- which shape a kind has -/
def shF (k : Int) : Nat := if k = 1 then 149 else 148
theorem sh_look {k : Int} (hk : k = 0 ∨ k = 1 ∨ k = 2) (w : World) (r : Nat) (hg : w.heap[r]? = some (.map shE 3)) :
    (Instr.lookup 152 (.map (some r)) (.int .i64 k) false).run Tryz.prog w = .ok (.func (.func (shF k)) #[] #[]) w := by
  rcases hk with rfl | rfl | rfl
  · exact run_lookup_int1 Tryz.underlying152 Tryz.underlying3 (zero_shape w) hg sh_find0 rfl
  · exact run_lookup_int1 Tryz.underlying152 Tryz.underlying3 (zero_shape w) hg sh_find1 rfl
  · exact run_lookup_int1 Tryz.underlying152 Tryz.underlying3 (zero_shape w) hg sh_find2 rfl
set_option maxRecDepth 100000 in
set_option maxHeartbeats 1000000 in
theorem on_prog (x : ItemM) (A : Option Addr) (c bi : Nat) (n : Int) (W : World) (hX : Blk W bi 91 #[.string x.name, .int .i64 x.kind, .int .i64 x.count, .int .i64 x.load, .int .i64 x.size, .int .i64 x.share, .slice A x.on.length c]) (hI : Ints W W.heap.size A x.on) (hl : x.on.length ≤ 9223372036854775807) :
    Calls Tryz.prog 93 #[.int .i64 n, .pointer (some ⟨bi, 0, none⟩)] W fun e w' => e = .returned (.bool (onB x n)) ∧ W = w' := by
  have HC := hide (contains_ints A c x.on n W hl hI)
  have x6 := hX.cell 6
  have lt := hX.lt
  simp at x6
  have HV := hide (show onB x n = decide (n ∈ x.on) from rfl)
  obtain ⟨q, hq⟩ : ∃ q, q = decide (n ∈ x.on) := ⟨_, rfl⟩
  rw [← hq] at HC HV
  clear hX hI hq
  go_enter Tryz.func93, Tryz.ntmps93
  go_wp2_with (go_at_call 86; refine HC.out.mono ?_; rintro e w1 ⟨rfl, rfl⟩)
  go_ret
  exact ⟨ret_congr (by rw [HV.out]; rfl), rfl⟩
/-- the boxes of fits' closures -/
structure F4 (h : MH) (m : Mod) (x : ItemM) (A : Option Addr) (c bm bi bo : Nat) (W : World) : Prop where
  mo : Blk W bm 29 #[.slice h.s m.sites.length h.sc, .slice h.f m.feeds.length h.fc, .slice h.r m.racks.length h.rc, .slice h.m m.machs.length h.mc, .slice h.l m.links.length h.lc, .slice h.i m.items.length h.ic, .int .i64 m.dark, .int .i64 m.slots, .int .i64 m.reserve, .int .i64 m.failures, .slice h.u m.rules.length h.uc]
  xi : Blk W bi 91 #[.string x.name, .int .i64 x.kind, .int .i64 x.count, .int .i64 x.load, .int .i64 x.size, .int .i64 x.share, .slice A x.on.length c]
  o : Blk W bo 125 #[.func (.func 93) #[] #[.pointer (some ⟨bi, 0, none⟩)]]
  k : ItC W h m x A
theorem F4.grow {h : MH} {m : Mod} {x : ItemM} {A : Option Addr} {c bm bi bo : Nat} {W W2 : World} (s : F4 h m x A c bm bi bo W) (hb : Below W.heap.size W W2) : F4 h m x A c bm bi bo W2 := ⟨s.mo.below hb s.mo.lt, s.xi.below hb s.xi.lt, s.o.below hb s.o.lt, s.k.grow hb⟩
theorem F4.drew {h : MH} {m : Mod} {x : ItemM} {A : Option Addr} {c bm bi bo : Nat} {W : World} (s : F4 h m x A c bm bi bo W) : F4 h m x A c bm bi bo W.drew := s.grow (Below.refl _ W).drew
theorem F4.cells {h : MH} {m : Mod} {x : ItemM} {A : Option Addr} {c bm bi bo : Nat} {W : World} (s : F4 h m x A c bm bi bo W) : (W.cell? ⟨bm, 0, none⟩ = some (.slice h.s m.sites.length h.sc) ∧ W.cell? ⟨bm, 1, none⟩ = some (.slice h.f m.feeds.length h.fc) ∧ W.cell? ⟨bm, 2, none⟩ = some (.slice h.r m.racks.length h.rc) ∧ W.cell? ⟨bm, 3, none⟩ = some (.slice h.m m.machs.length h.mc) ∧ W.cell? ⟨bm, 4, none⟩ = some (.slice h.l m.links.length h.lc) ∧ W.cell? ⟨bm, 5, none⟩ = some (.slice h.i m.items.length h.ic) ∧ W.cell? ⟨bm, 6, none⟩ = some (.int .i64 m.dark) ∧ W.cell? ⟨bm, 7, none⟩ = some (.int .i64 m.slots) ∧ W.cell? ⟨bm, 8, none⟩ = some (.int .i64 m.reserve) ∧ W.cell? ⟨bm, 9, none⟩ = some (.int .i64 m.failures) ∧ W.cell? ⟨bm, 10, none⟩ = some (.slice h.u m.rules.length h.uc)) ∧ W.cell? ⟨bo, 0, none⟩ = some (.func (.func 93) #[] #[.pointer (some ⟨bi, 0, none⟩)]) := ⟨MB.cells s.mo, s.o.cell 0⟩
set_option maxRecDepth 100000 in
set_option maxHeartbeats 4000000 in
theorem free_prog (h : MH) (m : Mod) (x : ItemM) (A : Option Addr) (c bm bi bo : Nat) (n : Int) (w : World) (s : F4 h m x A c bm bi bo w) :
    Calls Tryz.prog 94 #[.int .i64 n, .pointer (some ⟨bm, 0, none⟩), .pointer (some ⟨bo, 0, none⟩)] w (AnsB w (.bool (freeB m x n))) := by
  have hml := s.k.d.ml
  have HV := hide (show freeB m x n = ((decide (1 ≤ n) && decide (n ≤ m.machs.length)) && (!onB x n && (domI m 4 n != m.dark))) by simp [freeB, exI, bne]; rfl)
  obtain ⟨⟨a0, a1, a2, a3, a4, a5, a6, a7, a8, a9, a10⟩, b0⟩ := F4.cells s
  have lt1 := s.mo.lt
  have lt2 := s.o.lt
  have HS := hide s
  have hU : undef = Value.tuple #[] := rfl
  clear s
  by_cases h1 : 1 ≤ n
  · by_cases h2 : n ≤ (m.machs.length : Int)
    · have HO := hide (fun W (hW : F4 h m x A c bm bi bo W) => on_prog x A c bi n W hW.xi hW.k.i hW.k.l)
      rw [decide_eq_true h1, decide_eq_true h2] at HV
      cases ho : onB x n
      · rw [ho] at HV HO
        have HP := hide (fun W (hW : F4 h m x A c bm bi bo W) => place_prog h m n W hW.k.d)
        obtain ⟨p, hp⟩ : ∃ s, s = domI m 4 n := ⟨_, rfl⟩
        rw [← hp] at HV HP
        clear ho hp a0 a1 a2 a3 a4 a5 a6 a7 a8 a9 a10 b0 lt1 lt2
        go_enter Tryz.func94, Tryz.ntmps94
        go_wp2_with fail
        go_region_held3 (fun W => ((W.cell? ⟨bm, 0, none⟩ = some (.slice h.s m.sites.length h.sc) ∧ W.cell? ⟨bm, 1, none⟩ = some (.slice h.f m.feeds.length h.fc) ∧ W.cell? ⟨bm, 2, none⟩ = some (.slice h.r m.racks.length h.rc) ∧ W.cell? ⟨bm, 3, none⟩ = some (.slice h.m m.machs.length h.mc) ∧ W.cell? ⟨bm, 4, none⟩ = some (.slice h.l m.links.length h.lc) ∧ W.cell? ⟨bm, 5, none⟩ = some (.slice h.i m.items.length h.ic) ∧ W.cell? ⟨bm, 6, none⟩ = some (.int .i64 m.dark) ∧ W.cell? ⟨bm, 7, none⟩ = some (.int .i64 m.slots) ∧ W.cell? ⟨bm, 8, none⟩ = some (.int .i64 m.reserve) ∧ W.cell? ⟨bm, 9, none⟩ = some (.int .i64 m.failures) ∧ W.cell? ⟨bm, 10, none⟩ = some (.slice h.u m.rules.length h.uc)) ∧ W.cell? ⟨bo, 0, none⟩ = some (.func (.func 93) #[] #[.pointer (some ⟨bi, 0, none⟩)])) ∧ F4 h m x A c bm bi bo W)
          ((with_reducible (first | (go_keep; done) | exact ⟨F4.cells HS.out.drew, HS.out.drew⟩ | exact ⟨F4.cells c1, c1⟩)))
          ((first
            | (go_at_call 93; (with_reducible refine (HO.out _ HS.out.drew).mono ?_); rintro e w2 ⟨rfl, rfl⟩)
            | (go_at_call 95; (with_reducible refine (HP.out _ HS.out.drew).mono ?_); rintro e w3 ⟨rfl, hb⟩; have c1 := F4.grow HS.out.drew hb; have HB1 := hide ((Below.refl w.heap.size w).drew.trans hb); clear hb)))
        go_wp2_with fail
        go_ret
        exact ⟨ret_congr (by rw [HV.out]; rfl), HB1.out⟩
      · rw [ho] at HV HO
        have HO1 := hide (HO.out w.drew HS.out.drew)
        have hd1 : decide (1 ≤ n) = true := decide_eq_true h1
        have hd2 : decide (n ≤ (m.machs.length : Int)) = true := decide_eq_true h2
        clear ho h1 h2
        go_enter Tryz.func94, Tryz.ntmps94
        go_wp2_with fail
        clear a4 a5 a7 a8 a9 a10 a0 a1 a2
        first | (go_region_with ((go_at_call 93; refine HO1.out.mono ?_; rintro e w2 ⟨rfl, rfl⟩))) | fail
        all_goals
          go_wp2_with fail
          go_ret
          exact ⟨ret_congr (by rw [HV.out]; rfl), (Below.refl _ _).drew⟩
    · rw [decide_eq_false h2, Bool.and_false, Bool.false_and] at HV
      have hd : decide (n ≤ (m.machs.length : Int)) = false := decide_eq_false h2
      have hd1 : decide (1 ≤ n) = true := decide_eq_true h1
      clear h2 h1
      go_enter Tryz.func94, Tryz.ntmps94
      go_wp2_with fail
      go_quiet (fail)
      go_wp2_with fail
      go_ret
      exact ⟨ret_congr (by rw [HV.out]; rfl), by first | exact Below.refl _ _ | exact below_drawn (Below.refl _ _) _⟩
  · rw [decide_eq_false h1, Bool.false_and, Bool.false_and] at HV
    have hd : decide (1 ≤ n) = false := decide_eq_false h1
    clear h1
    go_enter Tryz.func94, Tryz.ntmps94
    go_wp2_with fail
    go_quiet (fail)
    go_wp2_with fail
    go_ret
    exact ⟨ret_congr (by rw [HV.out]; rfl), by first | exact Below.refl _ _ | exact below_drawn (Below.refl _ _) _⟩
end Go.Proofs.YtpggamapmgpjcaaGreatDoor
