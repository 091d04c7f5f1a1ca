/- A part of the claim: see its last text. -/
import Derived.Test.YtfemlajeomohhaaGreatDoorUK31

set_option maxRecDepth 100000
set_option maxHeartbeats 16000000
namespace Go.Proofs.YtfemlajeomohhaaGreatDoor
open Go Go.RowKit Go.Proofs
theorem Ad.some_ {B:Nat} {w:World} {v:Value} {l:List AO} (h:Ad B w v l) {k:Nat} (hv:v.ownBlock=some k):∃ g c,v=.slice (some ⟨g,0,none⟩) l.length c∧B≤g∧g<w.heap.size∧l.length≤c∧c≤9223372036854775807:=by
 rcases h.2 with⟨rfl,_⟩|⟨g,cap,cur,rfl,hB,hh,hc,hm,_⟩
 · cases hv
 · have hx:maxLen=9223372036854775807:=by decide
   exact⟨g,cap,rfl,hB,AB.lt hh,hc,by omega⟩
theorem SQ {α:Type} {L:List α} {j:Nat} {x:α} (h:L[j]? = some x):L.set j x=L:=by
 obtain⟨hj,e⟩:=List.getElem?_eq_some_iff.1 h
 rw[← e]
 exact List.set_getElem_self hj
theorem Ad.setState {B g c i:Nat} {w:World} {l:List AO} (h:Ad B w (.slice (some ⟨g,0,none⟩) l.length c) l) {mc:Int} (hf:Ch l mc=some i) (st:Int) :
    Ad B (w.setCell ⟨g,i*2+1,none⟩ (.int .i64 st)) (.slice (some ⟨g,0,none⟩) (CX l mc st).length c) (CX l mc st)∧w.grownBy (w.setCell ⟨g,i*2+1,none⟩ (.int .i64 st)) (some g):=by
 obtain⟨hi,hm,_⟩:=List.findIdx?_eq_some_iff_getElem.1 hf
 have hm:l[i].1=mc:=by simpa using hm
 obtain⟨h2,g2⟩:=World.ownsRow.stored h (i*2+1) (.int .i64 st)
 refine⟨?_,g2⟩
 have e:AL (l.set i (mc,st))=(AL l).set (i*2+1) (.int .i64 st):=by
  rw[Fg l i mc st hi,SQ (L:=AL l) (j:=i*2) (x:=.int .i64 mc) (by rw[(DT l i hi).1,hm])]
 rw[Js hf]
 unfold Ad
 rw[e,List.length_set]
 exact h2
theorem Ad.stateCell {B g c i:Nat} {w:World} {l:List AO} (h:Ad B w (.slice (some ⟨g,0,none⟩) l.length c) l) (hi:i<l.length):w.cell? ⟨g,i*2+1,none⟩=some (.int .i64 l[i].2)∧w.frozen? ⟨g,i*2+1,none⟩=false:=by
 have hu:=h.ut.cellsAt (by omega) (i*2+1) _ (DT l i hi).2
 rw[Nat.zero_add] at hu
 refine⟨hu,?_⟩
 rcases h.2 with⟨e,_⟩|⟨g2,cap,cur,e,_,hh,_⟩
 · cases e
 · have e1:=Option.some.inj (Value.slice.inj e).1
   have:g=g2:=by injection e1
   subst this
   exact AB.frozen hh _
theorem Tv {l:List AO} {mc:Int} {k:Nat} (hk:k<l.length) (h:mc<l[k].1) (hb:∀ j (hj:j<l.length),j<k→(fun u:AO=>decide (mc<u.1)) l[j]=false):Fh l mc=k:=by
 have:=CF (p:=fun u:AO=>decide (mc<u.1)) hk (by simpa using h) hb
 rcases MU l mc with h1|⟨h1,_⟩
 · rw[this] at h1;omega
 · rw[this] at h1;omega
theorem Sq {l:List AO} {mc:Int} (hb:∀ j (hj:j<l.length),(fun u:AO=>decide (mc<u.1)) l[j]=false):Fh l mc=l.length:=by
 have:=Ba (p:=fun u:AO=>decide (mc<u.1)) hb
 rcases MU l mc with h1|⟨_,h2⟩
 · rw[this] at h1;omega
 · exact h2
theorem JJ (w:World) (mc st:Int):Reads (w.alloc (.cells #[.int .i64 mc,.int .i64 st] 72)) (w.heap.size+1) 2 (some ⟨w.heap.size,0,none⟩) 1 (AL [(mc,st)]) :=
 ⟨rfl,fun _=>⟨_,rfl,by simp,fun j u hu=>by rw[BA,Nat.zero_add,CZ];simpa[AL] using hu⟩⟩
theorem UT.readsTake0 {w:World} {g off c:Nat} {l:List AO} (h:UT w (.slice (some ⟨g,off,none⟩) l.length c) l) {k:Nat} (hk:k≤l.length):Reads w w.heap.size 2 (some ⟨g,off,none⟩) k (AL (l.take k)):=by
 rcases Nat.eq_zero_or_pos l.length with h0|h0
 · exact Fz (List.eq_nil_of_length_eq_zero (by simp;omega)) (by omega)
 · exact h.readsTake h0 hk
theorem F6 {w:World} {g:Nat} {mc st:Int} (h:AB w g 72 #[.int .i64 mc,.int .i64 st]):Reads w w.heap.size 2 (some ⟨g,0,none⟩) 1 (AL [(mc,st)]) :=
 ⟨rfl,fun _=>⟨_,rfl,h.lt,fun j u hu=>by rw[BA,Nat.zero_add,h.cell];simpa[AL] using hu⟩⟩
theorem OQ (A:Option Addr) (c:Nat) (p:AA) (item mc st:Int) (i:Nat) (w:World) (h:PT w (.slice A p.length c) p) (hs:DW p) (hr1 : -9223372036854775808<item) (hr2:item≤9223372036854775807) (hf:Ch (AQ p item) mc=some i) :
    Calls Tryz.prog 131 #[.agg #[.slice A p.length c],.int .i64 item,.int .i64 mc,.int .i64 st] w (BG w (Cn p item mc st)):=by
 have H0:=hide (EM.start p A c w)
 have H0a:=hide (H0.out.grow ((Below.refl _ _).alloc (Nat.le_refl _) (.cells #[] 72)))
 have HU:=hide (Gr A c p item _ (h.below H0a.out.b) (by have:=hs.1;omega))
 have HE0:=hide (Ad.empty (B:=w.heap.size+1+1) ((w.alloc (.cells #[.slice A p.length c] 56)).alloc (.cells #[.slice none 0 0] 56)) (by simp) (g:=w.heap.size+1+1) (by simp))
 have HF:=hide (show Cg (AQ p item) mc=(i:Int) by rw[Dw,hf])
 have hul:=hs.units item
 have HIL:=hide (List.findIdx?_eq_some_iff_getElem.1 hf).1
 have HR:=hide (And.intro hr1 hr2)
 have HQ:=hide hf
 have HP:=hide (And.intro h hs)
 clear h hs hf hr1 hr2
 unfold Cn
 generalize AQ p item=l at HU HF hul HIL HQ ⊢
 go_enter Tryz.func131,Tryz.ntmps131
 go_wp2_with (first
  | (go_at_call 134;refine HU.out.mono ?_;rintro e w1 ⟨A2,c2,rfl,hu,hb1⟩
     have HS1:=hide (H0a.out.grow hb1)
     have HE1:=hide (HE0.out.keep (KT.below hb1))
     have HR2:=hide hu.reads
     have hz1:=HS1.out.cells.2.2.2.1
     clear hb1 hu)
  | (at_builtin;refine Dn rfl _ _ rfl (w.heap.size+1+1) (.slice (some ⟨w.heap.size+1+1,0,none⟩) 0 0) [] rfl HE1.out _ A2 l.length c2 l rfl rfl HR2.out (by simp;omega) (by omega) ?_;intro v2 w2 ho2 hg2 hv2
     rw[List.nil_append] at ho2
     obtain⟨k2,hk2⟩:∃ k2,v2.ownBlock=some k2:=by rcases hv2 with e|e <;> exact⟨_,e⟩
     obtain⟨g,c3,rfl,hBg,hgl,hlc,hcm⟩:=ho2.some_ hk2
     have hb2:Below (w.heap.size+1+1) w1 w2:=(Below.refl _ w1).grown hg2 (by omega) (fun g e=>(HE1.out.lt g e).1)
     have HS2:=hide (show EM p A c w w2 from⟨HS1.out.b.trans (hb2.mono (by omega)),HS1.out.bp.below hb2 (by omega),HS1.out.br.below hb2 (by omega)⟩)
     have HO:=hide ho2
     have HX:=hide (Gg (some ⟨g,0,none⟩) c3 l mc w2 (by omega) ho2.ut)
     rw[HF.out] at HX
     clear ho2 hg2 hv2 hk2 hb2 hz1)
  | (go_at_call 135;refine HX.out.mono ?_;rintro e w3 ⟨rfl,rfl⟩;obtain⟨s0,s1,s2,s3,s4⟩:=HS2.out.cells
     obtain⟨y0,y1⟩:=HO.out.stateCell HIL.out
     have hB:=HO.out.setState HQ.out st
     have hz2:g<w2.heap.size:=hgl
     have HS4:=hide (show EM p A c w (w2.setCell ⟨g,i*2+1,none⟩ (.int .i64 st)) from⟨HS2.out.b.setCell (by simp <;> omega) _,HS2.out.bp.far (by simp <;> omega) _,HS2.out.br.far (by simp <;> omega) _⟩)
     have HW:=hide (EY A c p item (some ⟨g,0,none⟩) c3 (CX l mc st) _ (HP.out.1.below HS4.out.b) HP.out.2 hB.1.ut HR.out.1 HR.out.2)
     rw[show(CX l mc st).length=l.length by rw[Js HQ.out];simp] at HW
     clear hB)
  | (go_at_call 195;refine HW.out.mono ?_;rintro e w5 ⟨A5,c5,rfl,hp5,hb5⟩
     have HS5:=hide (HS4.out.grow hb5)
     have HP5:=hide hp5
     obtain⟨r0,r1,r2,r3,r4⟩:=HS5.out.cells
     clear hb5 hp5))
 refine bodyPost_ret (v:=.agg #[.slice A5 (BL p item (CX l mc st)).length c5]) (by simp[results,Tryz.results131,go_sem, *]) rfl ?_
 exact HS5.out.done HP5.out
theorem Pi (A:Option Addr) (c:Nat) (p:AA) (item mc st:Int) (w:World) (h:PT w (.slice A p.length c) p) (hs:DW p) (hr1 : -9223372036854775808<item) (hr2:item≤9223372036854775807) (hf:Ch (AQ p item) mc=none) :
    Calls Tryz.prog 131 #[.agg #[.slice A p.length c],.int .i64 item,.int .i64 mc,.int .i64 st] w (BG w (Cn p item mc st)):=by
 have H0:=hide (EM.start p A c w)
 have H0a:=hide (H0.out.grow ((Below.refl _ _).alloc (Nat.le_refl _) (.cells #[] 72)))
 have HU:=hide (Gr A c p item _ (h.below H0a.out.b) (by have:=hs.1;omega))
 have HE0:=hide (Ad.empty (B:=w.heap.size+1+1) ((w.alloc (.cells #[.slice A p.length c] 56)).alloc (.cells #[.slice none 0 0] 56)) (by simp) (g:=w.heap.size+1+1) (by simp))
 have HF:=hide (show Cg (AQ p item) mc = -1 by rw[Dw,hf])
 have hul:=hs.units item
 have HR:=hide (And.intro hr1 hr2)
 have HQ:=hide hf
 have HP:=hide (And.intro h hs)
 clear h hs hf hr1 hr2
 unfold Cn
 generalize AQ p item=l at HU HF hul HQ ⊢
 go_enter Tryz.func131,Tryz.ntmps131
 go_wp2_with (first
  | (go_at_call 134;refine HU.out.mono ?_;rintro e w1 ⟨A2,c2,rfl,hu,hb1⟩
     have HS1:=hide (H0a.out.grow hb1)
     have HE1:=hide (HE0.out.keep (KT.below hb1))
     have HR2:=hide hu.reads
     have hz1:=HS1.out.cells.2.2.2.1
     clear hb1 hu)
  | (at_builtin;refine Dn rfl _ _ rfl (w.heap.size+1+1) (.slice (some ⟨w.heap.size+1+1,0,none⟩) 0 0) [] rfl HE1.out _ A2 l.length c2 l rfl rfl HR2.out (by simp;omega) (by omega) ?_;intro v2 w2 ho2 hg2 hv2
     rw[List.nil_append] at ho2
     obtain⟨k2,hk2⟩:∃ k2,v2.ownBlock=some k2:=by rcases hv2 with e|e <;> exact⟨_,e⟩
     obtain⟨g,c3,rfl,hBg,hgl,hlc,hcm⟩:=ho2.some_ hk2
     have hb2:Below (w.heap.size+1+1) w1 w2:=(Below.refl _ w1).grown hg2 (by omega) (fun g e=>(HE1.out.lt g e).1)
     have HS2:=hide (show EM p A c w w2 from⟨HS1.out.b.trans (hb2.mono (by omega)),HS1.out.bp.below hb2 (by omega),HS1.out.br.below hb2 (by omega)⟩)
     have HO:=hide ho2
     have HX:=hide (Gg (some ⟨g,0,none⟩) c3 l mc w2 (by omega) ho2.ut)
     rw[HF.out] at HX
     clear ho2 hg2 hv2 hk2 hb2 hz1)
  | (go_at_call 135;refine HX.out.mono ?_;rintro e w3 ⟨rfl,rfl⟩;obtain⟨s0,s1,s2,s3,s4⟩:=HS2.out.cells))
 go_loop [11] (fun i=>∃ k:Nat,k≤l.length∧i=.int .i64 k∧Hid (∀ j (hj:j<l.length),j<k→(fun u:AO=>decide (mc<u.1)) l[j]=false)) (fun i=>l.length - (intOf i).toNat)
 case atStart=>exact⟨0,Nat.zero_le _,rfl,fun j hj h0=>absurd h0 (by omega)⟩
 case round =>
  obtain⟨k,hk,rfl,hb⟩:=hrel
  by_cases hlt:k<l.length
  · obtain ⟨bb,oo,hA,hbb,x0,x1⟩:=HO.out.ut.at_ hlt
    have hA:=Option.some.inj hA
    obtain⟨rfl,rfl⟩:g=bb∧0=oo:=by injection hA with h1 h2;exact⟨h1,h2⟩
    rw[Nat.zero_add] at x0
    by_cases hle:l[k].1≤mc
    · have HK:=hide hle
      go_wp2_with fail
      go_round
      case rel=>exact⟨k+1,by omega,by go_num,fun j hj h1=>by
       rcases Nat.lt_or_ge j k with h2|h2
       · exact hb j hj h2
       · obtain rfl:j=k:=by omega
         have:=HK.out;simp;omega⟩
      case measure=>simp[intOf];omega
    · have HAT:=hide (Tv hlt (by omega) hb)
      have hkc0:¬ c3=k:=by omega
      go_wp2_with fail
      have HE:=hide (Ad.empty (B:=w2.heap.size) w2.drew (Nat.le_refl _) (g:=w2.heap.size) rfl)
      have hbe:=(Below.refl w2.heap.size w2).drew.alloc (Nat.le_refl _) (.cells #[] 72)
      have HBE:=hide hbe
      have HT:=hide HO.out.ut
      have HR1:=hide ((HT.out.keep (KT.below hbe)).readsTake (by omega) (k:=k) (by omega))
      have hbb:=hbe.alloc (by simp) (.cells #[.int .i64 mc,.int .i64 st] 72)
      have HBEB:=hide hbb
      have HEB:=hide (HE.out.keep (KT.alloc _ (.cells #[.int .i64 mc,.int .i64 st] 72)))
      have HR1B:=hide ((HT.out.keep (KT.below hbb)).readsTake (by omega) (k:=k) (by omega))
      have hbc:=((Below.refl w2.heap.size w2).drew.alloc (Nat.le_refl _) (.cells #[.int .i64 mc,.int .i64 st] 72)).alloc (by simp) (.cells #[] 72)
      have HBEC:=hide hbc
      have HEC:=hide (Ad.empty (B:=w2.heap.size) (w2.drew.alloc (.cells #[.int .i64 mc,.int .i64 st] 72)) (by simp) (g:=w2.heap.size+1) (by simp))
      have HR1C:=hide ((HT.out.keep (KT.below hbc)).readsTake (by omega) (k:=k) (by omega))
      have HUV:=hide ((AB.new w2.drew 72 #[.int .i64 mc,.int .i64 st]).alloc (.cells #[] 72))
      have HUU:=hide (show AB ((w2.drew.alloc (.cells #[] 72)).alloc (.cells #[.int .i64 mc,.int .i64 st] 72)) (w2.heap.size+1) 72 #[.int .i64 mc,.int .i64 st] by simpa using AB.new (w2.drew.alloc (.cells #[] 72)) 72 #[.int .i64 mc,.int .i64 st])
      have HLT:=hide (show k=(l.take k).length by simp;omega)
      have HLT2:=hide (show l.length - k=(l.drop k).length by simp)
      have HD:=hide (show CX l mc st=l.take k ++ [(mc,st)]++l.drop k by rw[IC HQ.out,HAT.out];simp)
      clear hbe hbb hbc
      have hkc:(k:Int)≤(c3:Int):=by omega
      have hkl:(k:Int)≤(l.length:Int):=by omega
      go_region_law
       ((first
         | (refine AU rfl _ _ rfl w2.heap.size (.slice (some ⟨w2.heap.size,0,none⟩) 0 0) [] rfl HE.out _ (some ⟨g,0,none⟩) k _ (l.take k) rfl HLT.out HR1.out (by simp;omega) (by simp) ?_;intro v3 w3 ho3 hg3 _
            rw[List.nil_append] at ho3
            obtain⟨A3,c4,e3,_⟩:=ho3.ut.form
            rw[← HLT.out] at e3
            subst e3
            have hb3:Below w2.heap.size w2 w3:=HBE.out.grown hg3 (by simp) (fun g e=>(HE.out.lt g e).1)
            have HB3:=hide hb3
            have HS3:=hide (HS2.out.grow hb3)
            have HO3A:=hide (ho3.keep (KT.alloc w3 (.cells #[.int .i64 mc,.int .i64 st] 72)))
            obtain⟨a0,a1,a2,a3,a4⟩:=HS3.out.cells
            clear hb3 ho3 hg3
            dsimp only)
         | (refine AU rfl _ _ rfl w2.heap.size (.slice (some ⟨w2.heap.size,0,none⟩) 0 0) [] rfl HEB.out _ (some ⟨g,0,none⟩) k _ (l.take k) rfl HLT.out HR1B.out (by simp;omega) (by simp <;> omega) ?_;intro v3 w3 ho3 hg3 _
            rw[List.nil_append] at ho3
            obtain⟨A3,c4,e3,_⟩:=ho3.ut.form
            rw[← HLT.out] at e3
            subst e3
            have hb3:Below w2.heap.size w2 w3:=HBEB.out.grown hg3 (by simp <;> omega) (fun g e=>(HE.out.lt g e).1)
            have HB3:=hide hb3
            have HS3:=hide (HS2.out.grow hb3)
            have HO3B:=hide ho3
            have HUB:=hide (F6 (HUU.out.grown hg3 (by simp[Value.ownBlock])))
            obtain⟨a0,a1,a2,a3,a4⟩:=HS3.out.cells
            clear hb3 ho3 hg3
            dsimp only)
         | (refine AU rfl _ _ rfl w2.heap.size (.slice (some ⟨w2.heap.size+1,0,none⟩) 0 0) [] rfl HEC.out _ (some ⟨g,0,none⟩) k _ (l.take k) rfl HLT.out HR1C.out (by simp;omega) (by simp <;> omega) ?_;intro v3 w3 ho3 hg3 _
            rw[List.nil_append] at ho3
            obtain⟨A3,c4,e3,_⟩:=ho3.ut.form
            rw[← HLT.out] at e3
            subst e3
            have hb3:Below w2.heap.size w2 w3:=HBEC.out.grown hg3 (by simp <;> omega) (fun g e=>Nat.le_trans (Nat.le_refl _) (HEC.out.lt g e).1)
            have HB3:=hide hb3
            have HS3:=hide (HS2.out.grow hb3)
            have HO3C:=hide ho3
            have HUC:=hide (F6 (HUV.out.grown hg3 (by simp[Value.ownBlock])))
            obtain⟨a0,a1,a2,a3,a4⟩:=HS3.out.cells
            clear hb3 ho3 hg3
            dsimp only)
         | (refine AU rfl _ _ rfl w2.heap.size (.slice A3 k c4) (l.take k) rfl HO3A.out (w3.heap.size+1) (some ⟨w3.heap.size,0,none⟩) 1 _ [(mc,st)] rfl rfl (JJ w3 mc st) (by simp;omega) (by have:=HB3.out.size;simp;omega) ?_;intro v4 w4 ho4 hg4 _
            obtain⟨A4,c5,e4,_⟩:=ho4.ut.form
            rw[List.length_append,← HLT.out] at e4
            subst e4
            have hb4:Below w2.heap.size w2 w4:=(HB3.out.alloc HB3.out.size _).grown hg4 (by have:=HB3.out.size;simp;omega) (fun g e=>(HO3A.out.lt g e).1)
            have HB4:=hide hb4
            have HS4:=hide (HS2.out.grow hb4)
            have HO4:=hide ho4
            have hrd:=(HT.out.keep (KT.below hb4)).readsDrop (by omega) k;rw[Nat.zero_add] at hrd;have HRD:=hide hrd;clear hrd
            obtain⟨b0,b1,b2,b3,b4⟩:=HS4.out.cells
            clear hb4 ho4 hg4
            dsimp only)
         | (refine AU rfl _ _ rfl w2.heap.size (.slice A3 k c4) (l.take k) rfl HO3B.out w3.heap.size (some ⟨w2.heap.size+1,0,none⟩) 1 _ [(mc,st)] rfl rfl HUB.out (by simp;omega) HB3.out.size ?_;intro v4 w4 ho4 hg4 _
            obtain⟨A4,c5,e4,_⟩:=ho4.ut.form
            rw[List.length_append,← HLT.out] at e4
            subst e4
            have hb4:Below w2.heap.size w2 w4:=HB3.out.grown hg4 HB3.out.size (fun g e=>(HO3B.out.lt g e).1)
            have HB4:=hide hb4
            have HS4:=hide (HS2.out.grow hb4)
            have HO4:=hide ho4
            have hrd:=(HT.out.keep (KT.below hb4)).readsDrop (by omega) k;rw[Nat.zero_add] at hrd;have HRD:=hide hrd;clear hrd
            obtain⟨b0,b1,b2,b3,b4⟩:=HS4.out.cells
            clear hb4 ho4 hg4
            dsimp only)
         | (refine AU rfl _ _ rfl w2.heap.size (.slice A3 k c4) (l.take k) rfl HO3C.out w3.heap.size (some ⟨w2.heap.size,0,none⟩) 1 _ [(mc,st)] rfl rfl HUC.out (by simp;omega) HB3.out.size ?_;intro v4 w4 ho4 hg4 _
            obtain⟨A4,c5,e4,_⟩:=ho4.ut.form
            rw[List.length_append,← HLT.out] at e4
            subst e4
            have hb4:Below w2.heap.size w2 w4:=HB3.out.grown hg4 HB3.out.size (fun g e=>(HO3C.out.lt g e).1)
            have HB4:=hide hb4
            have HS4:=hide (HS2.out.grow hb4)
            have HO4:=hide ho4
            have hrd:=(HT.out.keep (KT.below hb4)).readsDrop (by omega) k;rw[Nat.zero_add] at hrd;have HRD:=hide hrd;clear hrd
            obtain⟨b0,b1,b2,b3,b4⟩:=HS4.out.cells
            clear hb4 ho4 hg4
            dsimp only)
         | (refine AU rfl _ _ rfl w2.heap.size (.slice A4 (k+1) c5) (l.take k ++ [(mc,st)]) rfl HO4.out w4.heap.size _ _ _ (l.drop k) rfl HLT2.out HRD.out (by simp;omega) HB4.out.size ?_;intro v5 w5 ho5 hg5 _
            rw[← HD.out] at ho5
            obtain⟨A5,c6,rfl,_⟩:=ho5.ut.form
            have hb5:Below w2.heap.size w2 w5:=HB4.out.grown hg5 HB4.out.size (fun g e=>(HO4.out.lt g e).1)
            have HS5:=hide (HS2.out.grow hb5)
            obtain⟨d0,d1,d2,d3,d4⟩:=HS5.out.cells
            have HW:=hide (EY A c p item A5 c6 (CX l mc st) w5 (HP.out.1.below HS5.out.b) HP.out.2 ho5.ut HR.out.1 HR.out.2)
            clear hb5 ho5 hg5
            dsimp only)
         | (go_simp;go_at_call 195;refine HW.out.mono ?_;rintro e w6 ⟨A6,c7,rfl,hp6,hb6⟩
            have HS6:=hide (HS5.out.grow hb6)
            have HP6:=hide hp6
            obtain⟨r0,r1,r2,r3,r4⟩:=HS6.out.cells
            clear hb6 hp6
            dsimp only)))
      all_goals
       go_wp2_with fail
       refine bodyPost_ret (v:=.agg #[.slice A6 (BL p item (CX l mc st)).length c7]) (by simp[results,Tryz.results131,go_sem, *]) rfl ?_
       exact HS6.out.done HP6.out
  · have HKE:=hide (show k=l.length by omega)
    have HAT:=hide (show Fh l mc=k by rw[HKE.out];exact Sq fun j hj=>hb j hj (by have:=HKE.out;omega))
    have HZ:=hide (show l.drop k=[]∧l.length - k=0 by have:=HKE.out;exact⟨List.drop_eq_nil_of_le (by omega),by omega⟩)
    by_cases hkc0:c3=k
    · go_wp2_with fail
      have HE:=hide (Ad.empty (B:=w2.heap.size) w2.drew (Nat.le_refl _) (g:=w2.heap.size) rfl)
      have hbe:=(Below.refl w2.heap.size w2).drew.alloc (Nat.le_refl _) (.cells #[] 72)
      have HBE:=hide hbe
      have HT:=hide HO.out.ut
      have HR1:=hide ((HT.out.keep (KT.below hbe)).readsTake0 (k:=k) (by omega))
      have hbb:=hbe.alloc (by simp) (.cells #[.int .i64 mc,.int .i64 st] 72)
      have HBEB:=hide hbb
      have HEB:=hide (HE.out.keep (KT.alloc _ (.cells #[.int .i64 mc,.int .i64 st] 72)))
      have HR1B:=hide ((HT.out.keep (KT.below hbb)).readsTake0 (k:=k) (by omega))
      have hbc:=((Below.refl w2.heap.size w2).drew.alloc (Nat.le_refl _) (.cells #[.int .i64 mc,.int .i64 st] 72)).alloc (by simp) (.cells #[] 72)
      have HBEC:=hide hbc
      have HEC:=hide (Ad.empty (B:=w2.heap.size) (w2.drew.alloc (.cells #[.int .i64 mc,.int .i64 st] 72)) (by simp) (g:=w2.heap.size+1) (by simp))
      have HR1C:=hide ((HT.out.keep (KT.below hbc)).readsTake0 (k:=k) (by omega))
      have HUV:=hide ((AB.new w2.drew 72 #[.int .i64 mc,.int .i64 st]).alloc (.cells #[] 72))
      have HUU:=hide (show AB ((w2.drew.alloc (.cells #[] 72)).alloc (.cells #[.int .i64 mc,.int .i64 st] 72)) (w2.heap.size+1) 72 #[.int .i64 mc,.int .i64 st] by simpa using AB.new (w2.drew.alloc (.cells #[] 72)) 72 #[.int .i64 mc,.int .i64 st])
      have HLT:=hide (show k=(l.take k).length by simp;omega)
      have HLT2:=hide (show l.length - k=(l.drop k).length by simp)
      have HD:=hide (show CX l mc st=l.take k ++ [(mc,st)]++l.drop k by rw[IC HQ.out,HAT.out];simp)
      clear hbe hbb hbc
      have hkc:(k:Int)≤(c3:Int):=by omega
      have hkl:(k:Int)≤(l.length:Int):=by omega
      go_region_law
       ((first
         | (refine AU rfl _ _ rfl w2.heap.size (.slice (some ⟨w2.heap.size,0,none⟩) 0 0) [] rfl HE.out _ (some ⟨g,0,none⟩) k _ (l.take k) rfl HLT.out HR1.out (by simp;omega) (by simp) ?_;intro v3 w3 ho3 hg3 _
            rw[List.nil_append] at ho3
            obtain⟨A3,c4,e3,_⟩:=ho3.ut.form
            rw[← HLT.out] at e3
            subst e3
            have hb3:Below w2.heap.size w2 w3:=HBE.out.grown hg3 (by simp) (fun g e=>(HE.out.lt g e).1)
            have HB3:=hide hb3
            have HS3:=hide (HS2.out.grow hb3)
            have HO3A:=hide (ho3.keep (KT.alloc w3 (.cells #[.int .i64 mc,.int .i64 st] 72)))
            obtain⟨a0,a1,a2,a3,a4⟩:=HS3.out.cells
            clear hb3 ho3 hg3
            dsimp only)
         | (refine AU rfl _ _ rfl w2.heap.size (.slice (some ⟨w2.heap.size,0,none⟩) 0 0) [] rfl HEB.out _ (some ⟨g,0,none⟩) k _ (l.take k) rfl HLT.out HR1B.out (by simp;omega) (by simp <;> omega) ?_;intro v3 w3 ho3 hg3 _
            rw[List.nil_append] at ho3
            obtain⟨A3,c4,e3,_⟩:=ho3.ut.form
            rw[← HLT.out] at e3
            subst e3
            have hb3:Below w2.heap.size w2 w3:=HBEB.out.grown hg3 (by simp <;> omega) (fun g e=>(HE.out.lt g e).1)
            have HB3:=hide hb3
            have HS3:=hide (HS2.out.grow hb3)
            have HO3B:=hide ho3
            have HUB:=hide (F6 (HUU.out.grown hg3 (by simp[Value.ownBlock])))
            obtain⟨a0,a1,a2,a3,a4⟩:=HS3.out.cells
            clear hb3 ho3 hg3
            dsimp only)
         | (refine AU rfl _ _ rfl w2.heap.size (.slice (some ⟨w2.heap.size+1,0,none⟩) 0 0) [] rfl HEC.out _ (some ⟨g,0,none⟩) k _ (l.take k) rfl HLT.out HR1C.out (by simp;omega) (by simp <;> omega) ?_;intro v3 w3 ho3 hg3 _
            rw[List.nil_append] at ho3
            obtain⟨A3,c4,e3,_⟩:=ho3.ut.form
            rw[← HLT.out] at e3
            subst e3
            have hb3:Below w2.heap.size w2 w3:=HBEC.out.grown hg3 (by simp <;> omega) (fun g e=>Nat.le_trans (Nat.le_refl _) (HEC.out.lt g e).1)
            have HB3:=hide hb3
            have HS3:=hide (HS2.out.grow hb3)
            have HO3C:=hide ho3
            have HUC:=hide (F6 (HUV.out.grown hg3 (by simp[Value.ownBlock])))
            obtain⟨a0,a1,a2,a3,a4⟩:=HS3.out.cells
            clear hb3 ho3 hg3
            dsimp only)
         | (refine AU rfl _ _ rfl w2.heap.size (.slice A3 k c4) (l.take k) rfl HO3A.out (w3.heap.size+1) (some ⟨w3.heap.size,0,none⟩) 1 _ [(mc,st)] rfl rfl (JJ w3 mc st) (by simp;omega) (by have:=HB3.out.size;simp;omega) ?_;intro v4 w4 ho4 hg4 _
            obtain⟨A4,c5,e4,_⟩:=ho4.ut.form
            rw[List.length_append,← HLT.out] at e4
            subst e4
            have hb4:Below w2.heap.size w2 w4:=(HB3.out.alloc HB3.out.size _).grown hg4 (by have:=HB3.out.size;simp;omega) (fun g e=>(HO3A.out.lt g e).1)
            have HB4:=hide hb4
            have HS4:=hide (HS2.out.grow hb4)
            have HO4:=hide ho4
            skip
            obtain⟨b0,b1,b2,b3,b4⟩:=HS4.out.cells
            clear hb4 ho4 hg4
            dsimp only)
         | (refine AU rfl _ _ rfl w2.heap.size (.slice A3 k c4) (l.take k) rfl HO3B.out w3.heap.size (some ⟨w2.heap.size+1,0,none⟩) 1 _ [(mc,st)] rfl rfl HUB.out (by simp;omega) HB3.out.size ?_;intro v4 w4 ho4 hg4 _
            obtain⟨A4,c5,e4,_⟩:=ho4.ut.form
            rw[List.length_append,← HLT.out] at e4
            subst e4
            have hb4:Below w2.heap.size w2 w4:=HB3.out.grown hg4 HB3.out.size (fun g e=>(HO3B.out.lt g e).1)
            have HB4:=hide hb4
            have HS4:=hide (HS2.out.grow hb4)
            have HO4:=hide ho4
            skip
            obtain⟨b0,b1,b2,b3,b4⟩:=HS4.out.cells
            clear hb4 ho4 hg4
            dsimp only)
         | (refine AU rfl _ _ rfl w2.heap.size (.slice A3 k c4) (l.take k) rfl HO3C.out w3.heap.size (some ⟨w2.heap.size,0,none⟩) 1 _ [(mc,st)] rfl rfl HUC.out (by simp;omega) HB3.out.size ?_;intro v4 w4 ho4 hg4 _
            obtain⟨A4,c5,e4,_⟩:=ho4.ut.form
            rw[List.length_append,← HLT.out] at e4
            subst e4
            have hb4:Below w2.heap.size w2 w4:=HB3.out.grown hg4 HB3.out.size (fun g e=>(HO3C.out.lt g e).1)
            have HB4:=hide hb4
            have HS4:=hide (HS2.out.grow hb4)
            have HO4:=hide ho4
            skip
            obtain⟨b0,b1,b2,b3,b4⟩:=HS4.out.cells
            clear hb4 ho4 hg4
            dsimp only)
         | (refine AU rfl _ _ rfl w2.heap.size (.slice A4 (k+1) c5) (l.take k ++ [(mc,st)]) rfl HO4.out w4.heap.size _ _ _ (l.drop k) rfl HLT2.out (Fz HZ.out.1 HZ.out.2) (by simp;omega) HB4.out.size ?_;intro v5 w5 ho5 hg5 _
            rw[← HD.out] at ho5
            obtain⟨A5,c6,rfl,_⟩:=ho5.ut.form
            have hb5:Below w2.heap.size w2 w5:=HB4.out.grown hg5 HB4.out.size (fun g e=>(HO4.out.lt g e).1)
            have HS5:=hide (HS2.out.grow hb5)
            obtain⟨d0,d1,d2,d3,d4⟩:=HS5.out.cells
            have HW:=hide (EY A c p item A5 c6 (CX l mc st) w5 (HP.out.1.below HS5.out.b) HP.out.2 ho5.ut HR.out.1 HR.out.2)
            clear hb5 ho5 hg5
            dsimp only)
         | (go_simp;go_at_call 195;refine HW.out.mono ?_;rintro e w6 ⟨A6,c7,rfl,hp6,hb6⟩
            have HS6:=hide (HS5.out.grow hb6)
            have HP6:=hide hp6
            obtain⟨r0,r1,r2,r3,r4⟩:=HS6.out.cells
            clear hb6 hp6
            dsimp only)))
      all_goals
       go_wp2_with fail
       refine bodyPost_ret (v:=.agg #[.slice A6 (BL p item (CX l mc st)).length c7]) (by simp[results,Tryz.results131,go_sem, *]) rfl ?_
       exact HS6.out.done HP6.out
    · go_wp2_with fail
      have HE:=hide (Ad.empty (B:=w2.heap.size) w2.drew (Nat.le_refl _) (g:=w2.heap.size) rfl)
      have hbe:=(Below.refl w2.heap.size w2).drew.alloc (Nat.le_refl _) (.cells #[] 72)
      have HBE:=hide hbe
      have HT:=hide HO.out.ut
      have HR1:=hide ((HT.out.keep (KT.below hbe)).readsTake0 (k:=k) (by omega))
      have hbb:=hbe.alloc (by simp) (.cells #[.int .i64 mc,.int .i64 st] 72)
      have HBEB:=hide hbb
      have HEB:=hide (HE.out.keep (KT.alloc _ (.cells #[.int .i64 mc,.int .i64 st] 72)))
      have HR1B:=hide ((HT.out.keep (KT.below hbb)).readsTake0 (k:=k) (by omega))
      have hbc:=((Below.refl w2.heap.size w2).drew.alloc (Nat.le_refl _) (.cells #[.int .i64 mc,.int .i64 st] 72)).alloc (by simp) (.cells #[] 72)
      have HBEC:=hide hbc
      have HEC:=hide (Ad.empty (B:=w2.heap.size) (w2.drew.alloc (.cells #[.int .i64 mc,.int .i64 st] 72)) (by simp) (g:=w2.heap.size+1) (by simp))
      have HR1C:=hide ((HT.out.keep (KT.below hbc)).readsTake0 (k:=k) (by omega))
      have HUV:=hide ((AB.new w2.drew 72 #[.int .i64 mc,.int .i64 st]).alloc (.cells #[] 72))
      have HUU:=hide (show AB ((w2.drew.alloc (.cells #[] 72)).alloc (.cells #[.int .i64 mc,.int .i64 st] 72)) (w2.heap.size+1) 72 #[.int .i64 mc,.int .i64 st] by simpa using AB.new (w2.drew.alloc (.cells #[] 72)) 72 #[.int .i64 mc,.int .i64 st])
      have HLT:=hide (show k=(l.take k).length by simp;omega)
      have HLT2:=hide (show l.length - k=(l.drop k).length by simp)
      have HD:=hide (show CX l mc st=l.take k ++ [(mc,st)]++l.drop k by rw[IC HQ.out,HAT.out];simp)
      clear hbe hbb hbc
      have hkc:(k:Int)≤(c3:Int):=by omega
      have hkl:(k:Int)≤(l.length:Int):=by omega
      go_region_law
       ((first
         | (refine AU rfl _ _ rfl w2.heap.size (.slice (some ⟨w2.heap.size,0,none⟩) 0 0) [] rfl HE.out _ (some ⟨g,0,none⟩) k _ (l.take k) rfl HLT.out HR1.out (by simp;omega) (by simp) ?_;intro v3 w3 ho3 hg3 _
            rw[List.nil_append] at ho3
            obtain⟨A3,c4,e3,_⟩:=ho3.ut.form
            rw[← HLT.out] at e3
            subst e3
            have hb3:Below w2.heap.size w2 w3:=HBE.out.grown hg3 (by simp) (fun g e=>(HE.out.lt g e).1)
            have HB3:=hide hb3
            have HS3:=hide (HS2.out.grow hb3)
            have HO3A:=hide (ho3.keep (KT.alloc w3 (.cells #[.int .i64 mc,.int .i64 st] 72)))
            obtain⟨a0,a1,a2,a3,a4⟩:=HS3.out.cells
            clear hb3 ho3 hg3
            dsimp only)
         | (refine AU rfl _ _ rfl w2.heap.size (.slice (some ⟨w2.heap.size,0,none⟩) 0 0) [] rfl HEB.out _ (some ⟨g,0,none⟩) k _ (l.take k) rfl HLT.out HR1B.out (by simp;omega) (by simp <;> omega) ?_;intro v3 w3 ho3 hg3 _
            rw[List.nil_append] at ho3
            obtain⟨A3,c4,e3,_⟩:=ho3.ut.form
            rw[← HLT.out] at e3
            subst e3
            have hb3:Below w2.heap.size w2 w3:=HBEB.out.grown hg3 (by simp <;> omega) (fun g e=>(HE.out.lt g e).1)
            have HB3:=hide hb3
            have HS3:=hide (HS2.out.grow hb3)
            have HO3B:=hide ho3
            have HUB:=hide (F6 (HUU.out.grown hg3 (by simp[Value.ownBlock])))
            obtain⟨a0,a1,a2,a3,a4⟩:=HS3.out.cells
            clear hb3 ho3 hg3
            dsimp only)
         | (refine AU rfl _ _ rfl w2.heap.size (.slice (some ⟨w2.heap.size+1,0,none⟩) 0 0) [] rfl HEC.out _ (some ⟨g,0,none⟩) k _ (l.take k) rfl HLT.out HR1C.out (by simp;omega) (by simp <;> omega) ?_;intro v3 w3 ho3 hg3 _
            rw[List.nil_append] at ho3
            obtain⟨A3,c4,e3,_⟩:=ho3.ut.form
            rw[← HLT.out] at e3
            subst e3
            have hb3:Below w2.heap.size w2 w3:=HBEC.out.grown hg3 (by simp <;> omega) (fun g e=>Nat.le_trans (Nat.le_refl _) (HEC.out.lt g e).1)
            have HB3:=hide hb3
            have HS3:=hide (HS2.out.grow hb3)
            have HO3C:=hide ho3
            have HUC:=hide (F6 (HUV.out.grown hg3 (by simp[Value.ownBlock])))
            obtain⟨a0,a1,a2,a3,a4⟩:=HS3.out.cells
            clear hb3 ho3 hg3
            dsimp only)
         | (refine AU rfl _ _ rfl w2.heap.size (.slice A3 k c4) (l.take k) rfl HO3A.out (w3.heap.size+1) (some ⟨w3.heap.size,0,none⟩) 1 _ [(mc,st)] rfl rfl (JJ w3 mc st) (by simp;omega) (by have:=HB3.out.size;simp;omega) ?_;intro v4 w4 ho4 hg4 _
            obtain⟨A4,c5,e4,_⟩:=ho4.ut.form
            rw[List.length_append,← HLT.out] at e4
            subst e4
            have hb4:Below w2.heap.size w2 w4:=(HB3.out.alloc HB3.out.size _).grown hg4 (by have:=HB3.out.size;simp;omega) (fun g e=>(HO3A.out.lt g e).1)
            have HB4:=hide hb4
            have HS4:=hide (HS2.out.grow hb4)
            have HO4:=hide ho4
            skip
            obtain⟨b0,b1,b2,b3,b4⟩:=HS4.out.cells
            clear hb4 ho4 hg4
            dsimp only)
         | (refine AU rfl _ _ rfl w2.heap.size (.slice A3 k c4) (l.take k) rfl HO3B.out w3.heap.size (some ⟨w2.heap.size+1,0,none⟩) 1 _ [(mc,st)] rfl rfl HUB.out (by simp;omega) HB3.out.size ?_;intro v4 w4 ho4 hg4 _
            obtain⟨A4,c5,e4,_⟩:=ho4.ut.form
            rw[List.length_append,← HLT.out] at e4
            subst e4
            have hb4:Below w2.heap.size w2 w4:=HB3.out.grown hg4 HB3.out.size (fun g e=>(HO3B.out.lt g e).1)
            have HB4:=hide hb4
            have HS4:=hide (HS2.out.grow hb4)
            have HO4:=hide ho4
            skip
            obtain⟨b0,b1,b2,b3,b4⟩:=HS4.out.cells
            clear hb4 ho4 hg4
            dsimp only)
         | (refine AU rfl _ _ rfl w2.heap.size (.slice A3 k c4) (l.take k) rfl HO3C.out w3.heap.size (some ⟨w2.heap.size,0,none⟩) 1 _ [(mc,st)] rfl rfl HUC.out (by simp;omega) HB3.out.size ?_;intro v4 w4 ho4 hg4 _
            obtain⟨A4,c5,e4,_⟩:=ho4.ut.form
            rw[List.length_append,← HLT.out] at e4
            subst e4
            have hb4:Below w2.heap.size w2 w4:=HB3.out.grown hg4 HB3.out.size (fun g e=>(HO3C.out.lt g e).1)
            have HB4:=hide hb4
            have HS4:=hide (HS2.out.grow hb4)
            have HO4:=hide ho4
            skip
            obtain⟨b0,b1,b2,b3,b4⟩:=HS4.out.cells
            clear hb4 ho4 hg4
            dsimp only)
         | (refine AU rfl _ _ rfl w2.heap.size (.slice A4 (k+1) c5) (l.take k ++ [(mc,st)]) rfl HO4.out w4.heap.size _ _ _ (l.drop k) rfl HLT2.out (Fz HZ.out.1 HZ.out.2) (by simp;omega) HB4.out.size ?_;intro v5 w5 ho5 hg5 _
            rw[← HD.out] at ho5
            obtain⟨A5,c6,rfl,_⟩:=ho5.ut.form
            have hb5:Below w2.heap.size w2 w5:=HB4.out.grown hg5 HB4.out.size (fun g e=>(HO4.out.lt g e).1)
            have HS5:=hide (HS2.out.grow hb5)
            obtain⟨d0,d1,d2,d3,d4⟩:=HS5.out.cells
            have HW:=hide (EY A c p item A5 c6 (CX l mc st) w5 (HP.out.1.below HS5.out.b) HP.out.2 ho5.ut HR.out.1 HR.out.2)
            clear hb5 ho5 hg5
            dsimp only)
         | (go_simp;go_at_call 195;refine HW.out.mono ?_;rintro e w6 ⟨A6,c7,rfl,hp6,hb6⟩
            have HS6:=hide (HS5.out.grow hb6)
            have HP6:=hide hp6
            obtain⟨r0,r1,r2,r3,r4⟩:=HS6.out.cells
            clear hb6 hp6
            dsimp only)))
      all_goals
       go_wp2_with fail
       refine bodyPost_ret (v:=.agg #[.slice A6 (BL p item (CX l mc st)).length c7]) (by simp[results,Tryz.results131,go_sem, *]) rfl ?_
       exact HS6.out.done HP6.out
theorem JL (A:Option Addr) (c:Nat) (p:AA) (item mc st:Int) (w:World) (h:PT w (.slice A p.length c) p) (hs:DW p) (hr1 : -9223372036854775808<item) (hr2:item≤9223372036854775807) :
    Calls Tryz.prog 131 #[.agg #[.slice A p.length c],.int .i64 item,.int .i64 mc,.int .i64 st] w (BG w (Cn p item mc st)):=by
 rcases hf:Ch (AQ p item) mc with _|i
 · exact Pi A c p item mc st w h hs hr1 hr2 hf
 · exact OQ A c p item mc st i w h hs hr1 hr2 hf
theorem Jm (A:Option Addr) (c:Nat) (p:AA) (item mc:Int) (w:World) (h:PT w (.slice A p.length c) p) (hs:DW p) :
    Calls Tryz.prog 130 #[.agg #[.slice A p.length c],.int .i64 item,.int .i64 mc] w (BG w (Cf p item mc)):=by
 rcases hf:Ch (AQ p item) mc with _|i
 · exact Nr A c p item mc w h hs hf
 · exact Mj A c p item mc i w h hs hf
end Go.Proofs.YtfemlajeomohhaaGreatDoor
