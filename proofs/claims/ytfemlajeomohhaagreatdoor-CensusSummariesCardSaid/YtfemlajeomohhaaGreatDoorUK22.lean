/- A part of the claim: see its last text. -/
import Derived.Test.YtfemlajeomohhaaGreatDoorUK21
import Derived.RangeFuncRecord

set_option maxRecDepth 100000
set_option maxHeartbeats 16000000
namespace Go.Proofs.YtfemlajeomohhaaGreatDoor
open Go Go.RowKit Go.Proofs
structure Jv (w:World) (h:MH) (m:AC):Prop where
 d:MD w w.heap.size h m
 f:Ht m
 il:∀ x∈m.uT,x.machines.length≤9223372036854775807
 il2:m.iT.length≤100
 on:∀ y∈m.iT,y.on.length≤100
 rl:m.uT.length≤100
theorem JG {m:AC} {q:AA} {i k:Nat} {r:AR} (h:BB m r=false∨CB m r q=true):GG m q i k r=[]:=by
 unfold GG
 rw[if_neg]
 rcases h with h|h <;> simp[h]
theorem RY {m:AC} {q:AA} {i k:Nat} {r:AR} (h1:BB m r=true) (h2:CB m r q=false):GG m q i k r=[((i:Int),r.kind,(k:Int)+1,r.item)]:=by
 unfold GG
 rw[if_pos]
 simp[h1,h2]
theorem NN {m:AC} {r:AR} (h:BB m r=true):∃ k:Nat,k<4∧r.kind=(k:Int):=by
 simp only[BB,Bool.and_eq_true,Bool.or_eq_true,decide_eq_true_eq] at h
 exact⟨r.kind.toNat,by omega,by omega⟩
def VM (w0:World) (h:MH) (m:AC) (bm bw bx r bp:Nat) (W:World) (L:List CK) (i:Value) (wr:World):Prop :=
 ∃ k:Nat,k≤m.uT.length∧i=.int .i64 k∧Eg w0 h m bm bw bx r L wr∧Bb w0.heap.size bp W wr
theorem MV (w0:World) (h:MH) (m:AC) (C:Jv w0 h m) (bm bw bx r bp i:Nat) (L:List CK) (A':Option Addr) (c' n:Nat) (W:World) (s:Eg w0 h m bm bw bx r L W) :
    Calls Tryz.prog 28 #[.int .i64 i,.agg #[.slice A' n c'],.bool false,.pointer (some ⟨bm,0,none⟩),.pointer (some ⟨bw,0,none⟩),.pointer (some ⟨bx,0,none⟩)] W (Ia fun W'=>Eg w0 h m bm bw bx r L W'∧Bb w0.heap.size bp W W'):=by
 have hb:=(Below.refl W.heap.size W).alloc (Nat.le_refl _) (.cells #[.slice A' n c'] 56)
 have HS:=hide (And.intro (s.grow hb) (Bb.ofBelow (bp:=bp) hb s.b.size))
 obtain⟨a0,a1,a2,a3,a4,a5,a6,a7,a8,a9,a10⟩:=MB.cells s.mo
 have al:=s.mo.lt
 have HC:=hide C
 have hr100:=C.rl
 clear hb s C
 go_enter Tryz.func28,Tryz.ntmps28
 go_wp2_with fail
 clear a0 a1 a2 a3 a4 a5 a6 a7 a8 a9 a10 al
 go_loopw [14] (fun i wr=>VM w0 h m bm bw bx r bp W L i wr) (fun i _=>m.uT.length - (intOf i).toNat)
 case atStart=>exact⟨0,Nat.zero_le _,rfl,HS.out.1,HS.out.2⟩
 case round =>
  clear HS
  obtain⟨k,hk,rfl,hS,hV⟩:=hrel
  by_cases hlt:k<m.uT.length
  · obtain⟨b,off,A2,c2,hA,hb0,x0,x1,x2,x3,x4,x5,x6,_,_,_⟩:=(HC.out.d.dU.below hS.b).rule hlt
    have HA:=hide hA
    obtain⟨x,hx⟩:∃ x,x=m.uT[k]:=⟨_,rfl⟩
    rw[← hx] at x0 x1 x2 x3 x4 x5 x6
    have HX:=hide (And.intro hS hV)
    have hbl:=Nat.lt_of_lt_of_le hb0 hS.b.size
    clear hS hV hx
    rw[hA]
    clear hA
    go_wp2_with fail
    have hb:=(Below.refl wr.heap.size wr).alloc (Nat.le_refl _) (.cells #[.int .i64 x.kind,.int .i64 x.item,.int .i64 x.other,.int .i64 x.n,.int .i64 x.by_,.bool x.always,.slice A2 x.machines.length c2] 51)
    go_roundw
    case rel=>exact⟨k+1,by omega,by go_num,HX.out.1.grow hb,HX.out.2.trans (Bb.ofBelow hb HX.out.1.b.size)⟩
    case measure=>simp[intOf];omega
  · obtain rfl:k=m.uT.length:=by omega
    have HX:=hide (And.intro hS hV)
    clear hS hV
    go_wp2_with fail
    go_end0
    exact⟨rfl,HX.out.1,HX.out.2⟩
def VN (w0:World) (h:MH) (m:AC) (bm bw bx r bp i:Nat) (W W1:World) (L:List CK) (q:AA) (iv:Value) (wr:World):Prop :=
 ∃ k:Nat,k≤m.uT.length∧iv=.int .i64 k∧Eg w0 h m bm bw bx r (L++Cu m q i k) wr∧Bb w0.heap.size bp W wr∧Bb w0.heap.size W.heap.size W1 wr
theorem Li (w0:World) (h:MH) (m:AC) (C:Jv w0 h m) (bm bw bx r bp i:Nat) (L:List CK) (A':Option Addr) (c':Nat) (q:AA) (W:World) (s:Eg w0 h m bm bw bx r L W) (hp:PT W (.slice A' q.length c') q) (hql:q.length≤1000) (hqu:∀ l∈q,l.length≤1000) (hbx:w0.heap.size≤bx) (hL:L.length≤100000) (_hi:i≤1000) :
    Calls Tryz.prog 28 #[.int .i64 i,.agg #[.slice A' q.length c'],.bool true,.pointer (some ⟨bm,0,none⟩),.pointer (some ⟨bw,0,none⟩),.pointer (some ⟨bx,0,none⟩)] W (Ia fun W'=>Eg w0 h m bm bw bx r (L++Cu m q i m.uT.length) W'∧Bb w0.heap.size bp W W'):=by
 have hb:=(Below.refl W.heap.size W).alloc (Nat.le_refl _) (.cells #[.slice A' q.length c'] 56)
 have HS:=hide (show Eg w0 h m bm bw bx r (L++Cu m q i 0) _∧Bb w0.heap.size bp W _∧Bb w0.heap.size W.heap.size _ _ from⟨by rw[JW,List.append_nil];exact s.grow hb,Bb.ofBelow (bp:=bp) hb s.b.size,Bb.refl _ _ (W.alloc (.cells #[.slice A' q.length c'] 56))⟩)
 have HPB:=hide (AB.new W 56 #[.slice A' q.length c'])
 have HPT:=hide hp
 obtain⟨a0,a1,a2,a3,a4,a5,a6,a7,a8,a9,a10⟩:=MB.cells s.mo
 have al:=s.mo.lt
 have HC:=hide C
 have HQ:=hide (And.intro hql hqu)
 have hr100:=C.rl
 clear hb s C hp hql hqu
 go_enter Tryz.func28,Tryz.ntmps28
 go_wp2_with fail
 clear a0 a1 a2 a3 a4 a5 a6 a7 a8 a9 a10 al
 go_loopw [14] (fun iv wr=>VN w0 h m bm bw bx r bp i W (W.alloc (.cells #[.slice A' q.length c'] 56)) L q iv wr) (fun i _=>m.uT.length - (intOf i).toNat)
 case atStart=>exact⟨0,Nat.zero_le _,rfl,HS.out.1,HS.out.2.1,HS.out.2.2⟩
 case round =>
  clear HS
  obtain⟨k,hk,rfl,hS,hV,hV1⟩:=hrel
  by_cases hlt:k<m.uT.length
  · obtain ⟨b,off,A2,c2,hA,hb0,x0,x1,x2,x3,x4,x5,x6,_,_,gI⟩:=(HC.out.d.dU.below hS.b).rule hlt
    have HA:=hide hA
    obtain⟨x,hx⟩:∃ x,x=m.uT[k]:=⟨_,rfl⟩
    have hxm:x∈m.uT:=by rw[hx];exact List.getElem_mem hlt
    rw[← hx] at x0 x1 x2 x3 x4 x5 x6 gI
    have hb:=(Below.refl wr.heap.size wr).alloc (Nat.le_refl _) (.cells #[.int .i64 x.kind,.int .i64 x.item,.int .i64 x.other,.int .i64 x.n,.int .i64 x.by_,.bool x.always,.slice A2 x.machines.length c2] 51)
    have hpb:=hV1.kp _ HPB.out
    have hpq:PT wr (.slice A' q.length c') q:=HPT.out.keep hV.ku hV.kr
    have hRC:En wr h m x A2:=⟨(HC.out.d.below hS.b).more hS.b.size,HC.out.f,gI.more hS.b.size,HC.out.il x hxm,HC.out.il2,HC.out.on⟩
    have hcond:=hRC.cond hb (hpq.below hb) HQ.out.1 HQ.out.2
    have hlk0:=Q4 hS.mp hlt
    rw[← hx] at hlk0
    have hlk:=Q4 (m:=m) (w:=wr.alloc (.cells #[.int .i64 x.kind,.int .i64 x.item,.int .i64 x.other,.int .i64 x.n,.int .i64 x.by_,.bool x.always,.slice A2 x.machines.length c2] 51)) ((Below.heap_alloc _ _ _ (Array.getElem?_eq_some_iff.1 hS.mp).1).trans hS.mp) hlt
    rw[← hx] at hlk
    have w1:=hS.wt.cell 0
    have wl:=hS.wt.lt
    have p1:=hpb.cell 0
    have pl:=hpb.lt
    obtain⟨a0,a1,a2,a3,a4,a5,a6,a7,a8,a9,a10⟩:=MB.cells hS.mo
    have al:=hS.mo.lt
    simp at w1 p1
    have HBS:=hide (JV m q i hlt)
    rw[← hx] at HBS
    have HX:=hide (And.intro hS (And.intro hV hV1))
    have HCO:=hide hcond
    have HB:=hide hb
    have hbl:=Nat.lt_of_lt_of_le hb0 hS.b.size
    clear hS hV hV1 hx hpb hpq hRC hcond hlk0 gI hb
    rw[hA]
    clear hA
    cases hw:BB m x
    · rw[hw] at hlk
      have HN:=hide (JG (m:=m) (q:=q) (i:=i) (k:=k) (r:=x) (.inl hw))
      clear hw HCO
      go_wp2_with fail
      go_roundw
      case rel=>exact⟨k+1,by omega,by go_num,by rw[HBS.out,HN.out,List.append_nil];exact HX.out.1.grow HB.out,HX.out.2.1.trans (Bb.ofBelow HB.out HX.out.1.b.size),HX.out.2.2.trans (Bb.ofBelow HB.out HX.out.1.b.size)⟩
      case measure=>simp[intOf];omega
    · rw [hw] at hlk
      obtain⟨kk,hkk,hkd⟩:=NN hw
      have HH:=hide (JX h m HC.out.f kk hkk x hkd A2 c2 A' c' q _ HCO.out)
      cases hh:CB m x q
      · rw [hh] at HH
        have HN:=hide (RY (m:=m) (q:=q) (i:=i) (k:=k) (r:=x) hw hh)
        clear hw hh hkd HCO
        have HRB:=hide (AB.new wr 51 #[.int .i64 x.kind,.int .i64 x.item,.int .i64 x.other,.int .i64 x.n,.int .i64 x.by_,.bool x.always,.slice A2 x.machines.length c2])
        have HLN:=hide (show(L++Cu m q i k).length+1≤1000000 by have:=Fs m q i k;simp;omega)
        obtain⟨LL,hLL⟩:∃ LL,LL=L++Cu m q i k:=⟨_,rfl⟩
        rw[← hLL] at HX HLN
        have HLL:=hide hLL
        clear hLL
        go_wp2_with (first
         | (go_at_call 29;refine HH.out.mono ?_;rintro e w5 ⟨rfl,hb5⟩
            have hbw:=HB.out.trans (hb5.mono HB.out.size)
            have s5:=HX.out.1.grow hbw
            obtain⟨v,hv1,hv2⟩:=s5.o
            obtain⟨A5,c5,rfl⟩:=hv2.form
            have hrb:=HRB.out.below hb5 (by simp)
            have z0:=hrb.cell 0
            have z1:=hrb.cell 1
            have zl:=hrb.lt
            have y0:=hv1.cell 0
            have yl:=hv1.lt
            simp at z0 z1 y0
            have HO5:=hide (hv2.below ((Below.refl w5.heap.size w5).alloc (Nat.le_refl _) (.cells #[.int .i64 i,.int .i64 x.kind,.int .i64 ((k:Int)+1),.int .i64 x.item] 60)))
            have HV1:=hide hv1
            have HB5:=hide hbw
            have HS5:=hide s5
            have HR5:=hide (show Reads (w5.alloc (.cells #[.int .i64 i,.int .i64 x.kind,.int .i64 ((k:Int)+1),.int .i64 x.item] 60)) (w5.heap.size+1) 4 (some ⟨w5.heap.size,0,none⟩) 1 (BF [((i:Int),x.kind,(k:Int)+1,x.item)]) from⟨rfl,fun _=>⟨_,rfl,by simp,fun j u hu=>by rw[BA,Nat.zero_add,CZ];simpa[BF] using hu⟩⟩)
            clear hb5 hbw s5 hv1 hv2 hrb)
         | (at_builtin;refine QW rfl _ _ rfl w0.heap.size (.slice A5 LL.length c5) LL rfl HO5.out (w5.heap.size+1) (some ⟨w5.heap.size,0,none⟩) 1 ((i:Int),x.kind,(k:Int)+1,x.item) rfl HR5.out HLN.out (by have:=HS5.out.b.size;simp;omega) ?_;intro v6 w6 ho6 hg6 _
            obtain⟨A6,c6,rfl⟩:=ho6.form
            have hv6:=(HV1.out.alloc (.cells #[.int .i64 i,.int .i64 x.kind,.int .i64 ((k:Int)+1),.int .i64 x.item] 60)).grown hg6 (fun e=>HO5.out.ne (HV1.out.alloc _) (by decide) e.symm)
            have q0:=hv6.cell 0
            have qf:=hv6.frozen 0
            have ql:=hv6.lt
            simp at q0
            have HO6:=hide ho6
            have HG6:=hide hg6
            clear ho6 hg6 hv6))
        have hba:=(Below.refl w5.heap.size w5).alloc (Nat.le_refl _) (.cells #[.int .i64 i,.int .i64 x.kind,.int .i64 ((k:Int)+1),.int .i64 x.item] 60)
        have hSa:=HS5.out.grow hba
        have hxa:=HV1.out.alloc (.cells #[.int .i64 i,.int .i64 x.kind,.int .i64 ((k:Int)+1),.int .i64 x.item] 60)
        have hB5:=HB5.out
        have hVa:∀ bp,Bb w0.heap.size bp wr (w6.setCell ⟨bx,0,none⟩ (.slice A6 (LL ++ [((i:Int),x.kind,(k:Int)+1,x.item)]).length c6)):=fun bp =>
         ((Bb.ofBelow hB5 HX.out.1.b.size).trans (Bb.ofBelow hba HS5.out.b.size)).trans (Bb.appended hxa HO5.out HG6.out hSa.b.size hbx)
        have hSn:=hSa.appended (v':=.slice A6 (LL ++ [((i:Int),x.kind,(k:Int)+1,x.item)]).length c6) hxa HO5.out HG6.out HO6.out hbx
        simp only[List.length_append,List.length_cons,List.length_nil,Nat.zero_add] at hSn hVa
        go_roundw
        case rel=>exact⟨k+1,by omega,by go_num,by rw[HBS.out,HN.out,← List.append_assoc,← HLL.out];exact hSn,HX.out.2.1.trans (hVa _),HX.out.2.2.trans (hVa _)⟩
        case measure=>simp[intOf];omega
      · rw[hh] at HH
        have HN:=hide (JG (m:=m) (q:=q) (i:=i) (k:=k) (r:=x) (.inr hh))
        clear hw hh hkd HCO
        go_wp2_with (go_at_call 29;refine HH.out.mono ?_;rintro e w5 ⟨rfl,hb5⟩;have HB5:=hide (HB.out.trans (hb5.mono HB.out.size));clear hb5)
        go_roundw
        case rel=>exact⟨k+1,by omega,by go_num,by rw[HBS.out,HN.out,List.append_nil];exact HX.out.1.grow HB5.out,HX.out.2.1.trans (Bb.ofBelow HB5.out HX.out.1.b.size),HX.out.2.2.trans (Bb.ofBelow HB5.out HX.out.1.b.size)⟩
        case measure=>simp[intOf];omega
  · obtain rfl:k=m.uT.length:=by omega
    have HX:=hide (And.intro hS hV)
    clear hS hV
    go_wp2_with fail
    go_end0
    exact⟨rfl,HX.out.1,HX.out.2⟩
theorem QL (h:MH) (m:AC) (x:AR) (A:Option Addr) (c:Nat) (w:World) (hk:¬ (0≤x.kind∧x.kind<4)) :
    Calls Tryz.prog 27 #[.agg #[.slice h.s m.sT.length h.sc,.slice h.f m.fT.length h.fc,.slice h.r m.rT.length h.rc,.slice h.m m.mT.length h.mc,.slice h.l m.lT.length h.lc,.slice h.i m.iT.length h.ic,.int .i64 m.dT,.int .i64 m.oT,.int .i64 m.vT,.int .i64 m.aT,.slice h.u m.uT.length h.uc],.agg #[.int .i64 x.kind,.int .i64 x.item,.int .i64 x.other,.int .i64 x.n,.int .i64 x.by_,.bool x.always,.slice A x.machines.length c]] w (Br w (.bool false)):=by
 have HS:=hide (SL.start w #[.slice h.s m.sT.length h.sc,.slice h.f m.fT.length h.fc,.slice h.r m.rT.length h.rc,.slice h.m m.mT.length h.mc,.slice h.l m.lT.length h.lc,.slice h.i m.iT.length h.ic,.int .i64 m.dT,.int .i64 m.oT,.int .i64 m.vT,.int .i64 m.aT,.slice h.u m.uT.length h.uc] #[.int .i64 x.kind,.int .i64 x.item,.int .i64 x.other,.int .i64 x.n,.int .i64 x.by_,.bool x.always,.slice A x.machines.length c])
 have HCO:=hide (fun W (hI:Ints W W.heap.size (some ⟨w.heap.size+1+1,0,none⟩) [0,1,2,3])=>(show Calls Tryz.prog 65 #[.slice (some ⟨w.heap.size+1+1,0,none⟩) 4 4,.int .i64 x.kind] W fun e w'=>e=.returned (.bool (decide (x.kind∈([0,1,2,3]:List Int))))∧W=w' from DV (some ⟨w.heap.size+1+1,0,none⟩) 4 [0,1,2,3] x.kind W (by simp) hI))
 have hin:decide (x.kind∈([0,1,2,3]:List Int))=false:=by simp;omega
 rw[hin] at HCO
 clear hk hin
 go_enter Tryz.func27,Tryz.ntmps27
 go_wp2_with fail
 refine wp_region_held_drew (S:=(fun W=>W.cell? ⟨w.heap.size+1,0,none⟩=some (.int .i64 x.kind)∧SL w #[.slice h.s m.sT.length h.sc,.slice h.f m.fT.length h.fc,.slice h.r m.rT.length h.rc,.slice h.m m.mT.length h.mc,.slice h.l m.lT.length h.lc,.slice h.i m.iT.length h.ic,.int .i64 m.dT,.int .i64 m.oT,.int .i64 m.vT,.int .i64 m.aT,.slice h.u m.uT.length h.uc] #[.int .i64 x.kind,.int .i64 x.item,.int .i64 x.other,.int .i64 x.n,.int .i64 x.by_,.bool x.always,.slice A x.machines.length c] W)) (by kernel_rfl) (⟨HS.out.drew.s.x.cell 0,HS.out.drew⟩) (fun hHeld=>?_)
 refine wpAnyH_take (i:=0) (oi:=_) (v:=?_) rfl (by kernel_rfl) (by kernel_rfl) (by kernel_rfl) (fun _ _ _ h=>h) (Or.inl ⟨by rfl,?_⟩) hHeld ?_
 rotate_left
 · intro W hSw;(try dsimp only at hSw);go_simp;try with_reducible rfl
 simp only[Act.put,List.getElem_toArray,List.getElem_cons_zero,List.setIfInBounds_toArray,List.set_cons_zero,List.set_cons_succ]
 refine wpAnyH_take (i:=1) (oi:=_) (v:=?_) rfl (by kernel_rfl) (by kernel_rfl) (by kernel_rfl) (fun _ _ _ h=>h) (Or.inl ⟨by rfl,?_⟩) hHeld ?_
 rotate_left
 · intro W hSw;(try dsimp only at hSw);go_simp;try with_reducible rfl
 simp only[Act.put,List.getElem_toArray,List.getElem_cons_succ,List.getElem_cons_zero,List.setIfInBounds_toArray,List.set_cons_zero,List.set_cons_succ]
 refine wpAnyH_take (i:=2) (oi:=_) (v:=?_) rfl (by kernel_rfl) (by kernel_rfl) (by kernel_rfl) (fun _ _ _ h=>h) (Or.inl ⟨by rfl,?_⟩) hHeld ?_
 rotate_left
 · intro W hSw;(try dsimp only at hSw);go_simp;try with_reducible rfl
 simp only[Act.put,List.getElem_toArray,List.getElem_cons_succ,List.getElem_cons_zero,List.setIfInBounds_toArray,List.set_cons_zero,List.set_cons_succ]
 refine wpAnyH_ready (rs:=[3]) (by kernel_rfl) (by simp) ?_
 refine AllReadyH.cons rfl (fun K hK=>?_) AllReadyH.nil
 go_simp
 go_at_call 65
 have hI:=SL.ints HS.out.drew
 refine(HCO.out _ hI).mono ?_
 rintro e w1 ⟨rfl,rfl⟩
 clear hI
 dsimp only
 refine hK.out _ _ (⟨HS.out.drew.s.x.cell 0,HS.out.drew⟩) (fun hHeld=>?_)
 clear hK K
 refine wpAnyH_take (i:=4) (oi:=_) (v:=.bool false) rfl (by kernel_rfl) (by kernel_rfl) (by kernel_rfl) (fun _ _ _ h=>h) (Or.inl ⟨by rfl,?_⟩) hHeld ?_
 · intro W hSw;(try dsimp only at hSw);go_simp
 simp only[Act.put,List.getElem_toArray,List.getElem_cons_succ,List.getElem_cons_zero,List.setIfInBounds_toArray,List.set_cons_zero,List.set_cons_succ]
 refine wpAnyH_take (i:=5) (oi:=_) (v:=_) rfl (by kernel_rfl) (by kernel_rfl) (by kernel_rfl) (fun _ _ _ h=>h) (Or.inr ⟨by rfl,rfl⟩) hHeld ?_
 simp only[Act.put,List.getElem_toArray,List.getElem_cons_succ,List.getElem_cons_zero,List.setIfInBounds_toArray,List.set_cons_zero,List.set_cons_succ]
 refine wpAnyH_take (i:=6) (oi:=_) (v:=_) rfl (by kernel_rfl) (by kernel_rfl) (by kernel_rfl) (fun _ _ _ h=>h) (Or.inr ⟨by rfl,rfl⟩) hHeld ?_
 simp only[Act.put,List.getElem_toArray,List.getElem_cons_succ,List.getElem_cons_zero,List.setIfInBounds_toArray,List.set_cons_zero,List.set_cons_succ]
 refine wpAnyH_take (i:=7) (oi:=_) (v:=_) rfl (by kernel_rfl) (by kernel_rfl) (by kernel_rfl) (fun _ _ _ h=>h) (Or.inr ⟨by rfl,rfl⟩) hHeld ?_
 simp only[Act.put,List.getElem_toArray,List.getElem_cons_succ,List.getElem_cons_zero,List.setIfInBounds_toArray,List.set_cons_zero,List.set_cons_succ]
 refine wpAnyH_take (i:=8) (oi:=_) (v:=_) rfl (by kernel_rfl) (by kernel_rfl) (by kernel_rfl) (fun _ _ _ h=>h) (Or.inr ⟨by rfl,rfl⟩) hHeld ?_
 simp only[Act.put,List.getElem_toArray,List.getElem_cons_succ,List.getElem_cons_zero,List.setIfInBounds_toArray,List.set_cons_zero,List.set_cons_succ]
 refine wpAnyH_take (i:=9) (oi:=_) (v:=_) rfl (by kernel_rfl) (by kernel_rfl) (by kernel_rfl) (fun _ _ _ h=>h) (Or.inr ⟨by rfl,rfl⟩) hHeld ?_
 simp only[Act.put,List.getElem_toArray,List.getElem_cons_succ,List.getElem_cons_zero,List.setIfInBounds_toArray,List.set_cons_zero,List.set_cons_succ]
 refine wpAnyH_take (i:=10) (oi:=_) (v:=.bool false) rfl (by kernel_rfl) (by kernel_rfl) (by kernel_rfl) (fun _ _ _ h=>h) (Or.inl ⟨by rfl,?_⟩) hHeld ?_
 · intro W hSw;(try dsimp only at hSw);go_simp
 simp only[Act.put,List.getElem_toArray,List.getElem_cons_succ,List.getElem_cons_zero,List.setIfInBounds_toArray,List.set_cons_zero,List.set_cons_succ]
 refine wpAnyH_take (i:=11) (oi:=_) (v:=.bool false) rfl (by kernel_rfl) (by kernel_rfl) (by kernel_rfl) (fun _ _ _ h=>h) (Or.inl ⟨by rfl,?_⟩) hHeld ?_
 · intro W hSw;(try dsimp only at hSw);go_simp
 simp only[Act.put,List.getElem_toArray,List.getElem_cons_succ,List.getElem_cons_zero,List.setIfInBounds_toArray,List.set_cons_zero,List.set_cons_succ]
 refine wpAnyH_take (i:=12) (oi:=_) (v:=_) rfl (by kernel_rfl) (by kernel_rfl) (by kernel_rfl) (fun _ _ _ h=>h) (Or.inr ⟨by rfl,rfl⟩) hHeld ?_
 simp only[Act.put,List.getElem_toArray,List.getElem_cons_succ,List.getElem_cons_zero,List.setIfInBounds_toArray,List.set_cons_zero,List.set_cons_succ]
 refine wpAnyH_take (i:=13) (oi:=_) (v:=_) rfl (by kernel_rfl) (by kernel_rfl) (by kernel_rfl) (fun _ _ _ h=>h) (Or.inr ⟨by rfl,rfl⟩) hHeld ?_
 simp only[Act.put,List.getElem_toArray,List.getElem_cons_succ,List.getElem_cons_zero,List.setIfInBounds_toArray,List.set_cons_zero,List.set_cons_succ]
 refine wpAnyH_take (i:=14) (oi:=_) (v:=_) rfl (by kernel_rfl) (by kernel_rfl) (by kernel_rfl) (fun _ _ _ h=>h) (Or.inr ⟨by rfl,rfl⟩) hHeld ?_
 simp only[Act.put,List.getElem_toArray,List.getElem_cons_succ,List.getElem_cons_zero,List.setIfInBounds_toArray,List.set_cons_zero,List.set_cons_succ]
 refine wpAnyH_take (i:=15) (oi:=_) (v:=_) rfl (by kernel_rfl) (by kernel_rfl) (by kernel_rfl) (fun _ _ _ h=>h) (Or.inr ⟨by rfl,rfl⟩) hHeld ?_
 simp only[Act.put,List.getElem_toArray,List.getElem_cons_succ,List.getElem_cons_zero,List.setIfInBounds_toArray,List.set_cons_zero,List.set_cons_succ]
 refine wpAnyH_take (i:=16) (oi:=_) (v:=_) rfl (by kernel_rfl) (by kernel_rfl) (by kernel_rfl) (fun _ _ _ h=>h) (Or.inr ⟨by rfl,rfl⟩) hHeld ?_
 simp only[Act.put,List.getElem_toArray,List.getElem_cons_succ,List.getElem_cons_zero,List.setIfInBounds_toArray,List.set_cons_zero,List.set_cons_succ]
 refine wpAnyH_take (i:=17) (oi:=_) (v:=.bool false) rfl (by kernel_rfl) (by kernel_rfl) (by kernel_rfl) (fun _ _ _ h=>h) (Or.inl ⟨by rfl,?_⟩) hHeld ?_
 · intro W hSw;(try dsimp only at hSw);go_simp
 simp only[Act.put,List.getElem_toArray,List.getElem_cons_succ,List.getElem_cons_zero,List.setIfInBounds_toArray,List.set_cons_zero,List.set_cons_succ]
 refine wpAnyH_take (i:=18) (oi:=_) (v:=.bool false) rfl (by kernel_rfl) (by kernel_rfl) (by kernel_rfl) (fun _ _ _ h=>h) (Or.inl ⟨by rfl,?_⟩) hHeld ?_
 · intro W hSw;(try dsimp only at hSw);go_simp
 simp only[Act.put,List.getElem_toArray,List.getElem_cons_succ,List.getElem_cons_zero,List.setIfInBounds_toArray,List.set_cons_zero,List.set_cons_succ]
 refine wpAnyH_done (by kernel_rfl) ?_ _
 go_wp2_with fail
 go_ret
 exact⟨by rfl,HS.out.drew.s.b⟩
theorem Oi (h:MH) (m:AC) (x:AR) (A:Option Addr) (c:Nat) (w:World) (d:MD w w.heap.size h m) (hk:0≤x.kind∧x.kind<4) (hj:Ai m x.item=2) :
    Calls Tryz.prog 27 #[.agg #[.slice h.s m.sT.length h.sc,.slice h.f m.fT.length h.fc,.slice h.r m.rT.length h.rc,.slice h.m m.mT.length h.mc,.slice h.l m.lT.length h.lc,.slice h.i m.iT.length h.ic,.int .i64 m.dT,.int .i64 m.oT,.int .i64 m.vT,.int .i64 m.aT,.slice h.u m.uT.length h.uc],.agg #[.int .i64 x.kind,.int .i64 x.item,.int .i64 x.other,.int .i64 x.n,.int .i64 x.by_,.bool x.always,.slice A x.machines.length c]] w (Br w (.bool false)):=by
 have HS:=hide (SL.start w #[.slice h.s m.sT.length h.sc,.slice h.f m.fT.length h.fc,.slice h.r m.rT.length h.rc,.slice h.m m.mT.length h.mc,.slice h.l m.lT.length h.lc,.slice h.i m.iT.length h.ic,.int .i64 m.dT,.int .i64 m.oT,.int .i64 m.vT,.int .i64 m.aT,.slice h.u m.uT.length h.uc] #[.int .i64 x.kind,.int .i64 x.item,.int .i64 x.other,.int .i64 x.n,.int .i64 x.by_,.bool x.always,.slice A x.machines.length c])
 have HCO:=hide (fun W (hI:Ints W W.heap.size (some ⟨w.heap.size+1+1,0,none⟩) [0,1,2,3])=>(show Calls Tryz.prog 65 #[.slice (some ⟨w.heap.size+1+1,0,none⟩) 4 4,.int .i64 x.kind] W fun e w'=>e=.returned (.bool (decide (x.kind∈([0,1,2,3]:List Int))))∧W=w' from DV (some ⟨w.heap.size+1+1,0,none⟩) 4 [0,1,2,3] x.kind W (by simp) hI))
 have HKI:=hide (fun W (hb:Below w.heap.size w W)=>Cx h m x.item W (d.grow hb))
 have hin:decide (x.kind∈([0,1,2,3]:List Int))=true:=by simp;omega
 rw[hin] at HCO
 rw[hj] at HKI
 clear hk hin d hj
 go_enter Tryz.func27,Tryz.ntmps27
 go_wp2_with fail
 refine wp_region_held_drew (S:=(fun W=>((W.cell? ⟨w.heap.size,0,none⟩=some (.slice h.s m.sT.length h.sc)∧W.cell? ⟨w.heap.size,1,none⟩=some (.slice h.f m.fT.length h.fc)∧W.cell? ⟨w.heap.size,2,none⟩=some (.slice h.r m.rT.length h.rc)∧W.cell? ⟨w.heap.size,3,none⟩=some (.slice h.m m.mT.length h.mc)∧W.cell? ⟨w.heap.size,4,none⟩=some (.slice h.l m.lT.length h.lc)∧W.cell? ⟨w.heap.size,5,none⟩=some (.slice h.i m.iT.length h.ic)∧W.cell? ⟨w.heap.size,6,none⟩=some (.int .i64 m.dT)∧W.cell? ⟨w.heap.size,7,none⟩=some (.int .i64 m.oT)∧W.cell? ⟨w.heap.size,8,none⟩=some (.int .i64 m.vT)∧W.cell? ⟨w.heap.size,9,none⟩=some (.int .i64 m.aT)∧W.cell? ⟨w.heap.size,10,none⟩=some (.slice h.u m.uT.length h.uc))∧W.cell? ⟨w.heap.size+1,0,none⟩=some (.int .i64 x.kind)∧W.cell? ⟨w.heap.size+1,1,none⟩=some (.int .i64 x.item))∧SL w #[.slice h.s m.sT.length h.sc,.slice h.f m.fT.length h.fc,.slice h.r m.rT.length h.rc,.slice h.m m.mT.length h.mc,.slice h.l m.lT.length h.lc,.slice h.i m.iT.length h.ic,.int .i64 m.dT,.int .i64 m.oT,.int .i64 m.vT,.int .i64 m.aT,.slice h.u m.uT.length h.uc] #[.int .i64 x.kind,.int .i64 x.item,.int .i64 x.other,.int .i64 x.n,.int .i64 x.by_,.bool x.always,.slice A x.machines.length c] W)) (by kernel_rfl) (⟨⟨MB.cells HS.out.drew.s.m,HS.out.drew.s.x.cell 0,HS.out.drew.s.x.cell 1⟩,HS.out.drew⟩) (fun hHeld=>?_)
 refine wpAnyH_take (i:=0) (oi:=_) (v:=?_) rfl (by kernel_rfl) (by kernel_rfl) (by kernel_rfl) (fun _ _ _ h=>h) (Or.inl ⟨by rfl,?_⟩) hHeld ?_
 rotate_left
 · intro W hSw;(try dsimp only at hSw);go_simp;try with_reducible rfl
 simp only[Act.put,List.getElem_toArray,List.getElem_cons_zero,List.setIfInBounds_toArray,List.set_cons_zero,List.set_cons_succ]
 refine wpAnyH_take (i:=1) (oi:=_) (v:=?_) rfl (by kernel_rfl) (by kernel_rfl) (by kernel_rfl) (fun _ _ _ h=>h) (Or.inl ⟨by rfl,?_⟩) hHeld ?_
 rotate_left
 · intro W hSw;(try dsimp only at hSw);go_simp;try with_reducible rfl
 simp only[Act.put,List.getElem_toArray,List.getElem_cons_succ,List.getElem_cons_zero,List.setIfInBounds_toArray,List.set_cons_zero,List.set_cons_succ]
 refine wpAnyH_take (i:=2) (oi:=_) (v:=?_) rfl (by kernel_rfl) (by kernel_rfl) (by kernel_rfl) (fun _ _ _ h=>h) (Or.inl ⟨by rfl,?_⟩) hHeld ?_
 rotate_left
 · intro W hSw;(try dsimp only at hSw);go_simp;try with_reducible rfl
 simp only[Act.put,List.getElem_toArray,List.getElem_cons_succ,List.getElem_cons_zero,List.setIfInBounds_toArray,List.set_cons_zero,List.set_cons_succ]
 refine wpAnyH_ready (rs:=[3]) (by kernel_rfl) (by simp) ?_
 refine AllReadyH.cons rfl (fun K hK=>?_) AllReadyH.nil
 go_simp
 go_at_call 65
 have hI:=SL.ints HS.out.drew
 refine(HCO.out _ hI).mono ?_
 rintro e w1 ⟨rfl,rfl⟩
 clear hI
 dsimp only
 refine hK.out _ _ (⟨⟨MB.cells HS.out.drew.s.m,HS.out.drew.s.x.cell 0,HS.out.drew.s.x.cell 1⟩,HS.out.drew⟩) (fun hHeld=>?_)
 clear hK K
 refine wpAnyH_take (i:=4) (oi:=_) (v:=.bool true) rfl (by kernel_rfl) (by kernel_rfl) (by kernel_rfl) (fun _ _ _ h=>h) (Or.inl ⟨by rfl,?_⟩) hHeld ?_
 · intro W hSw;(try dsimp only at hSw);go_simp
 simp only[Act.put,List.getElem_toArray,List.getElem_cons_succ,List.getElem_cons_zero,List.setIfInBounds_toArray,List.set_cons_zero,List.set_cons_succ]
 refine wpAnyH_take (i:=5) (oi:=_) (v:=?_) rfl (by kernel_rfl) (by kernel_rfl) (by kernel_rfl) (fun _ _ _ h=>h) (Or.inl ⟨by rfl,?_⟩) hHeld ?_
 rotate_left
 · intro W hSw;(try dsimp only at hSw);go_simp;try with_reducible rfl
 simp only[Act.put,List.getElem_toArray,List.getElem_cons_succ,List.getElem_cons_zero,List.setIfInBounds_toArray,List.set_cons_zero,List.set_cons_succ]
 refine wpAnyH_take (i:=6) (oi:=_) (v:=?_) rfl (by kernel_rfl) (by kernel_rfl) (by kernel_rfl) (fun _ _ _ h=>h) (Or.inl ⟨by rfl,?_⟩) hHeld ?_
 rotate_left
 · intro W hSw;(try dsimp only at hSw);go_simp;try with_reducible rfl
 simp only[Act.put,List.getElem_toArray,List.getElem_cons_succ,List.getElem_cons_zero,List.setIfInBounds_toArray,List.set_cons_zero,List.set_cons_succ]
 refine wpAnyH_take (i:=7) (oi:=_) (v:=?_) rfl (by kernel_rfl) (by kernel_rfl) (by kernel_rfl) (fun _ _ _ h=>h) (Or.inl ⟨by rfl,?_⟩) hHeld ?_
 rotate_left
 · intro W hSw;(try dsimp only at hSw);go_simp;try with_reducible rfl
 simp only[Act.put,List.getElem_toArray,List.getElem_cons_succ,List.getElem_cons_zero,List.setIfInBounds_toArray,List.set_cons_zero,List.set_cons_succ]
 refine wpAnyH_ready (rs:=[8]) (by kernel_rfl) (by simp) ?_
 refine AllReadyH.cons rfl (fun K hK=>?_) AllReadyH.nil
 go_simp
 go_at_call 32
 have hbw:=SL.b HS.out.drew
 refine(HKI.out _ hbw).mono ?_
 rintro e w2 ⟨rfl,hb2⟩
 have c7:=SL.grow HS.out.drew hb2
 clear hb2 hbw
 dsimp only
 refine hK.out _ _ (⟨⟨MB.cells c7.s.m,c7.s.x.cell 0,c7.s.x.cell 1⟩,c7⟩) (fun hHeld=>?_)
 clear hK K
 refine wpAnyH_take (i:=9) (oi:=_) (v:=.bool false) rfl (by kernel_rfl) (by kernel_rfl) (by kernel_rfl) (fun _ _ _ h=>h) (Or.inl ⟨by rfl,?_⟩) hHeld ?_
 · intro W hSw;(try dsimp only at hSw);go_simp
 simp only[Act.put,List.getElem_toArray,List.getElem_cons_succ,List.getElem_cons_zero,List.setIfInBounds_toArray,List.set_cons_zero,List.set_cons_succ]
 refine wpAnyH_take (i:=10) (oi:=_) (v:=.bool false) rfl (by kernel_rfl) (by kernel_rfl) (by kernel_rfl) (fun _ _ _ h=>h) (Or.inl ⟨by rfl,?_⟩) hHeld ?_
 · intro W hSw;(try dsimp only at hSw);go_simp
 simp only[Act.put,List.getElem_toArray,List.getElem_cons_succ,List.getElem_cons_zero,List.setIfInBounds_toArray,List.set_cons_zero,List.set_cons_succ]
 refine wpAnyH_take (i:=11) (oi:=_) (v:=.bool false) rfl (by kernel_rfl) (by kernel_rfl) (by kernel_rfl) (fun _ _ _ h=>h) (Or.inl ⟨by rfl,?_⟩) hHeld ?_
 · intro W hSw;(try dsimp only at hSw);go_simp
 simp only[Act.put,List.getElem_toArray,List.getElem_cons_succ,List.getElem_cons_zero,List.setIfInBounds_toArray,List.set_cons_zero,List.set_cons_succ]
 refine wpAnyH_take (i:=12) (oi:=_) (v:=_) rfl (by kernel_rfl) (by kernel_rfl) (by kernel_rfl) (fun _ _ _ h=>h) (Or.inr ⟨by rfl,rfl⟩) hHeld ?_
 simp only[Act.put,List.getElem_toArray,List.getElem_cons_succ,List.getElem_cons_zero,List.setIfInBounds_toArray,List.set_cons_zero,List.set_cons_succ]
 refine wpAnyH_take (i:=13) (oi:=_) (v:=_) rfl (by kernel_rfl) (by kernel_rfl) (by kernel_rfl) (fun _ _ _ h=>h) (Or.inr ⟨by rfl,rfl⟩) hHeld ?_
 simp only[Act.put,List.getElem_toArray,List.getElem_cons_succ,List.getElem_cons_zero,List.setIfInBounds_toArray,List.set_cons_zero,List.set_cons_succ]
 refine wpAnyH_take (i:=14) (oi:=_) (v:=_) rfl (by kernel_rfl) (by kernel_rfl) (by kernel_rfl) (fun _ _ _ h=>h) (Or.inr ⟨by rfl,rfl⟩) hHeld ?_
 simp only[Act.put,List.getElem_toArray,List.getElem_cons_succ,List.getElem_cons_zero,List.setIfInBounds_toArray,List.set_cons_zero,List.set_cons_succ]
 refine wpAnyH_take (i:=15) (oi:=_) (v:=_) rfl (by kernel_rfl) (by kernel_rfl) (by kernel_rfl) (fun _ _ _ h=>h) (Or.inr ⟨by rfl,rfl⟩) hHeld ?_
 simp only[Act.put,List.getElem_toArray,List.getElem_cons_succ,List.getElem_cons_zero,List.setIfInBounds_toArray,List.set_cons_zero,List.set_cons_succ]
 refine wpAnyH_take (i:=16) (oi:=_) (v:=_) rfl (by kernel_rfl) (by kernel_rfl) (by kernel_rfl) (fun _ _ _ h=>h) (Or.inr ⟨by rfl,rfl⟩) hHeld ?_
 simp only[Act.put,List.getElem_toArray,List.getElem_cons_succ,List.getElem_cons_zero,List.setIfInBounds_toArray,List.set_cons_zero,List.set_cons_succ]
 refine wpAnyH_take (i:=17) (oi:=_) (v:=.bool false) rfl (by kernel_rfl) (by kernel_rfl) (by kernel_rfl) (fun _ _ _ h=>h) (Or.inl ⟨by rfl,?_⟩) hHeld ?_
 · intro W hSw;(try dsimp only at hSw);go_simp
 simp only[Act.put,List.getElem_toArray,List.getElem_cons_succ,List.getElem_cons_zero,List.setIfInBounds_toArray,List.set_cons_zero,List.set_cons_succ]
 refine wpAnyH_take (i:=18) (oi:=_) (v:=.bool false) rfl (by kernel_rfl) (by kernel_rfl) (by kernel_rfl) (fun _ _ _ h=>h) (Or.inl ⟨by rfl,?_⟩) hHeld ?_
 · intro W hSw;(try dsimp only at hSw);go_simp
 simp only[Act.put,List.getElem_toArray,List.getElem_cons_succ,List.getElem_cons_zero,List.setIfInBounds_toArray,List.set_cons_zero,List.set_cons_succ]
 refine wpAnyH_done (by kernel_rfl) ?_ _
 go_wp2_with fail
 go_ret
 exact⟨by rfl,c7.s.b⟩
theorem P7 {P:Program} {w:World} {r:Nat} {es:Array MapEntry} {c:Nat} (h:w.heap[r]? = some (.map es c)) (o:Obj):(setObj r o).run P w=.ok () (w.putObj r o):=by
 simp only[setObj,Sem.run,h]
 rfl
theorem LA {P:Program} {w:World} {t K E:TypeId} {r:Nat} {es:Array MapEntry} {c:Nat} {k:Int} {v:Value}
    (ht:P.underlying t=some (.map K E)) (hk:P.underlying K=some (.int .i64)) (hg:w.heap[r]? = some (.map es c)) (hf:Instr.findNow (.int .i64) (.int .i64 k) es.toList 0=some none) :
    (Instr.mapUpdate t (.map (some r)) (.int .i64 k) v).run P w=.ok () (w.putObj r (.map (es.push { key:=.int .i64 k,val:=v,born:=c }) (c+1))):=by
 unfold Instr.mapUpdate
 simp[Sem.run_bind,run_underlying ht,EI hg,Ep hk,EA hk k es.toList hf,P7 hg]
theorem KO {P:Program} {w:World} {t K E:TypeId} {r:Nat} (f:Nat→Value) {n:Nat} {v:Value} (ht:P.underlying t=some (.map K E)) (hk:P.underlying K=some (.int .i64)) (hg:w.heap[r]? = some (.map (BR f n) n)) (hv:v=f n) :
    (Instr.mapUpdate t (.map (some r)) (.int .i64 (n:Int)) v).run P w=.ok () (w.putObj r (.map (BR f (n+1)) (n+1))):=by
 rw[LA ht hk hg (IU f n),hv,LP]
end Go.Proofs.YtfemlajeomohhaaGreatDoor
