/- A part of the claim: see its last text. -/
import Derived.Test.YtfemlajeomohhaaGreatDoorUK08

set_option maxRecDepth 100000
set_option maxHeartbeats 16000000
namespace Go.Proofs.YtfemlajeomohhaaGreatDoor
open Go Go.RowKit Go.Proofs
theorem Fg:∀ (l:List AO) (i:Nat) (a b:Int),i<l.length→AL (l.set i (a,b))=((AL l).set (i*2) (.int .i64 a)).set (i*2+1) (.int .i64 b)
 | u :: l,0,a,b,_=>rfl
 | u :: l,i+1,a,b,h=>by
   have:=Fg l i a b (by simpa using h)
   rw[show(i+1)*2=i*2+2 by omega]
   simp only[List.set_cons_succ]
   show AL (u :: l.set i (a,b))=_
   simp only[AL,List.flatMap_cons] at this ⊢
   rw[this]
   rfl
theorem Ad.set_ {B g c i:Nat} {w:World} {l:List AO} (h:Ad B w (.slice (some ⟨g,0,none⟩) l.length c) l) (hi:i<l.length) (a b:Int) :
    Ad B ((w.setCell ⟨g,i*2,none⟩ (.int .i64 a)).setCell ⟨g,i*2+1,none⟩ (.int .i64 b)) (.slice (some ⟨g,0,none⟩) l.length c) (l.set i (a,b))∧w.grownBy ((w.setCell ⟨g,i*2,none⟩ (.int .i64 a)).setCell ⟨g,i*2+1,none⟩ (.int .i64 b)) (some g):=by
 obtain⟨h1,g1⟩:=World.ownsRow.stored h (i*2) (.int .i64 a)
 obtain⟨h2,g2⟩:=World.ownsRow.stored h1 (i*2+1) (.int .i64 b)
 refine⟨?_,⟨g2.os.trans g1.os,g2.tape.trans g1.tape,g2.output.trans g1.output,Nat.le_trans g1.size g2.size,fun k hk hne=>(g2.block k (Nat.lt_of_lt_of_le hk g1.size) hne).trans (g1.block k hk hne)⟩⟩
 unfold Ad
 rw[Fg l i a b hi,List.length_set]
 exact h2
theorem Js{l:List AO}{mc st:Int}{i:Nat}(h:Ch l mc=some i):CX l mc st=l.set i (mc,st):=by simp[CX,h]
theorem IC{l:List AO}{mc st:Int}(h:Ch l mc=none):CX l mc st=l.take (Fh l mc)++(mc,st) :: l.drop (Fh l mc):=by simp[CX,h]
theorem Tw (l:List AO) (mc:Int):Fh l mc≤l.length:=by
 unfold Fh
 cases h:l.findIdx? fun u=>decide (mc<u.1) with
 | none=>simp
 | some k=>simp;exact Nat.le_of_lt (List.findIdx?_eq_some_iff_getElem.1 h).1
theorem MU (l:List AO) (mc:Int):Ae (fun u:AO=>decide (mc<u.1)) l=(Fh l mc:Int)∨(Ae (fun u:AO=>decide (mc<u.1)) l = -1∧Fh l mc=l.length):=by
 unfold Fh Ae
 cases h:l.findIdx? fun u=>decide (mc<u.1) with
 | none=>exact .inr ⟨rfl,rfl⟩
 | some k=>exact .inl rfl
theorem SA (bp bi bm bu:Nat) (A:Option Addr) (c:Nat) (p:AA) (item mc st:Int) (W:World) (hP:AB W bp 56 #[.slice A p.length c]) (hI:AB W bi 3 #[.int .i64 item]) (hM:AB W bm 3 #[.int .i64 mc]) (hU:AB W bu 72 #[.int .i64 mc,.int .i64 st])
    (h:PT W (.slice A p.length c) p) (hs:DW p) (hnil:AQ p item=[]) :
    Calls Tryz.prog 172 #[.slice none 0 0,.pointer (some ⟨bp,0,none⟩),.pointer (some ⟨bi,0,none⟩),.pointer (some ⟨bm,0,none⟩),.pointer (some ⟨bu,0,none⟩)] W (E9 W (.slice none 0 0) (CX [] mc st)):=by
 have HF:=hide (Il A c p item mc W h (by have:=hs.1;omega) (by rw[hnil];simp))
 rw[hnil,show Cg [] mc = -1 from rfl] at HF
 have p0:=hP.cell 0
 have pl:=hP.lt
 have i0:=hI.cell 0
 have il:=hI.lt
 have m0:=hM.cell 0
 have ml:=hM.lt
 simp at p0 i0 m0
 have HS:=hide (And.intro hM hU)
 have hblt:=hU.lt
 clear hP hI hM hU h hs hnil
 have HIX:=hide fun(w1:World) (hb1:Below W.heap.size W w1)=>FD 174 #[.pointer (some ⟨bm,0,none⟩)] (fun _ _=>by kernel_rfl) (fun u=>decide (mc<u.1)) none 0 [] w1 (by simp) (UT.nil_ w1) (fun i hi W' hW'=>absurd hi (by simp))
 rw[show Ae (fun u:AO=>decide (mc<u.1)) [] = -1 from rfl] at HIX
 have HNEW:=hide (show ∀ (w2:World),Reads (w2.alloc (.cells #[.int .i64 mc,.int .i64 st] 72)) (w2.heap.size+1) 2 (some ⟨w2.heap.size,0,none⟩) 1 (AL [(mc,st)]) from fun w2=>⟨rfl,fun _=>⟨_,rfl,by simp,fun j u hu=>by
  rw[BA,Nat.zero_add,CZ]
  simpa[AL] using hu⟩⟩)
 have HAF:=hide (show ∀ (w2:World) (v1:Value) (w3:World),Below W.heap.size W w2→Ad W.heap.size w3 v1 ([] ++ [(mc,st)])→(w2.alloc (.cells #[.int .i64 mc,.int .i64 st] 72)).grownBy w3 none →
     Ad W.heap.size w3 v1 [(mc,st)]∧(W.heap.size≤w3.heap.size∧Below W.heap.size W w3)∧∃ A4 c4,v1=.slice A4 1 c4 from by
     intro w2 v1 w3 hb ho hg
     have hb3:Below W.heap.size W w3:=(hb.alloc hb.size _).grown hg (by have:=hb.size;simp;omega) (fun k hk=>by cases hk)
     obtain⟨A4,c4,e,_⟩:=ho.ut.form
     exact⟨ho,⟨hb3.size,hb3⟩,A4,c4,e⟩)
 go_enter Tryz.func172,Tryz.ntmps172
 go_wp2_with (first
  | (go_at_call 169;refine HF.out.mono ?_;rintro e w1 ⟨rfl,hb1⟩
     have HB1:=hide hb1
     have HX:=hide (HIX.out w1 hb1)
     have ml1:=Nat.lt_of_lt_of_le ml hb1.size
     clear hb1)
  | (go_at_call 173;refine HX.out.mono ?_;rintro e w2 ⟨rfl,hb2⟩
     have HB2:=hide (HB1.out.trans (hb2.mono HB1.out.size))
     have hU2:=HS.out.2.below HB2.out HS.out.2.lt
     have u0:=hU2.cell 0
     have u1:=hU2.cell 1
     have ul:=hU2.lt
     simp at u0 u1
     have hbz:=HB2.out.size
     clear hU2 hb2))
 go_region_law
  ((first
    | (refine AU rfl _ _ rfl W.heap.size (.slice none 0 0) [] rfl (Ad.nil_ _ _) (w2.heap.size+1) (some ⟨w2.heap.size,0,none⟩) 1 _ [(mc,st)] rfl rfl (HNEW.out w2) (by simp) (by simp <;> omega) ?_;intro v1 w3 ho1 hg1 _;have HA:=hide (HAF.out w2 v1 w3 HB2.out ho1 ⟨hg1.os,hg1.tape,hg1.output,hg1.size,hg1.block⟩);obtain⟨A4,c4,rfl⟩:=HA.out.2.2;clear ho1 hg1)
    | (refine AU rfl _ _ rfl (W.heap.size) (.slice A4 1 c4) [(mc,st)] rfl HA.out.1 W.heap.size _ 0 _ [] rfl rfl ⟨by simp[AL],fun h=>absurd h (by simp)⟩ (by simp) HA.out.2.1.1 ?_;intro v5 w5 ho5 hg5 _;have HE:=hide (And.intro ho5 hg5);clear ho5 hg5)))
 all_goals
  go_wp2_with fail
  go_ret
  obtain⟨hO5,hG5⟩:=HE.out
  have hO6:Ad W.heap.size w5 v5 (CX [] mc st):=hO5
  obtain⟨A6,c6,rfl,_⟩:=hO6.ut.form
  have hb5:Below W.heap.size W w5:=HA.out.2.1.2.grown hG5 HA.out.2.1.1 (fun k hk=>(HA.out.1.lt k hk).1)
  exact⟨A6,c6,rfl,hO6.ut,⟨hb5.os,hb5.tape,hb5.output,hb5.size,fun k hk _=>hb5.block k hk⟩⟩
theorem Q9 (bp bi bm bu:Nat) (A:Option Addr) (c:Nat) (p:AA) (item mc st:Int) (A2:Option Addr) (c2:Nat) (W:World) (hP:AB W bp 56 #[.slice A p.length c]) (hI:AB W bi 3 #[.int .i64 item]) (hM:AB W bm 3 #[.int .i64 mc]) (hU:AB W bu 72 #[.int .i64 mc,.int .i64 st])
    (h:PT W (.slice A p.length c) p) (hs:DW p) (B:Nat) (ho:Ad B W (.slice A2 (AQ p item).length c2) (AQ p item)) (_hBu:bu<B) :
    Calls Tryz.prog 172 #[.slice A2 (AQ p item).length c2,.pointer (some ⟨bp,0,none⟩),.pointer (some ⟨bi,0,none⟩),.pointer (some ⟨bm,0,none⟩),.pointer (some ⟨bu,0,none⟩)] W (E9 W (.slice A2 (AQ p item).length c2) (CX (AQ p item) mc st)):=by
 have hA2:(A2=none∧c2=0∧AQ p item=[])∨∃ g,A2=some ⟨g,0,none⟩:=by
  rcases ho.2 with⟨e,e2⟩|⟨g2,cap,cur,e,_⟩
  · exact .inl ⟨(Value.slice.inj e).1,(Value.slice.inj e).2.2,List.eq_nil_of_length_eq_zero e2⟩
  · exact .inr ⟨g2,(Value.slice.inj e).1⟩
 rcases hA2 with⟨rfl,rfl,hnil⟩|hA2
 · rw[hnil]
   exact SA bp bi bm bu A c p item mc st W hP hI hM hU h hs hnil
 have hul:=hs.units item
 have HF:=hide (Il A c p item mc W h (by have:=hs.1;omega) (by omega))
 have p0:=hP.cell 0
 have pl:=hP.lt
 have i0:=hI.cell 0
 have il:=hI.lt
 have m0:=hM.cell 0
 have ml:=hM.lt
 simp at p0 i0 m0
 have hfi:=Nu (AQ p item) mc
 have hfe:=Dw (AQ p item) mc
 have HS:=hide (And.intro hM (And.intro hU ho))
 have hblt:=hU.lt
 clear hP hI hM hU h hs ho
 generalize AQ p item=l at *
 cases hf:Ch l mc with
 | some i =>
   have hil:i<l.length:=(List.findIdx?_eq_some_iff_getElem.1 hf).1
   rw[hf] at hfe
   rw[hfe] at HF
   have HD:=hide (Js (st:=st) hf)
   clear hA2
   obtain⟨g,off,rfl,hgl,hlc,hcm⟩:=HS.out.2.2.ut.some_ (by omega)
   have hoff:off=0:=by
    rcases HS.out.2.2.2 with⟨e,_⟩|⟨g2,cap,cur,e,_⟩
    · cases e
    · have:=Option.some.inj (Value.slice.inj e).1
      exact congrArg Addr.off this
   subst hoff
   have hiI:(i:Int)<(l.length:Int):=by omega
   clear hf hfe hfi
   go_enter Tryz.func172,Tryz.ntmps172
   go_wp2_with (go_at_call 169;refine HF.out.mono ?_;rintro e w1 ⟨rfl,hb1⟩
                obtain⟨hM,hU,ho⟩:=HS.out
                have ho1:=Ad.keep ho (KT.below hb1)
                have hU1:=hU.below hb1 hU.lt
                have u0:=hU1.cell 0
                have u1:=hU1.cell 1
                have ul:=hU1.lt
                simp at u0 u1
                have f0:=World.ownsRow.frozenAt ho1 (i*2)
                have f1:=World.ownsRow.frozenAt ho1 (i*2+1)
                have r0:=(World.ownsRow.cellAt ho1 (i*2) (by omega)).trans (DT l i hil).1
                have r1:=(World.ownsRow.cellAt ho1 (i*2+1) (by omega)).trans (DT l i hil).2
                have gl1:g<w1.heap.size:=Nat.lt_of_lt_of_le hgl hb1.size
                have HO1:=hide (Ad.set_ ho1 hil mc st)
                have HB1:=hide hb1
                clear hM hU ho ho1 hU1 hb1)
   go_ret
   rw[HD.out]
   obtain⟨ho2,hg2⟩:=HO1.out
   have hlen:(l.set i (mc,st)).length=l.length:=by simp
   refine⟨some ⟨g,0,none⟩,c2,by rw[hlen];rfl,by rw[hlen];exact ho2.ut,?_⟩
   exact⟨hg2.os.trans HB1.out.os,hg2.tape.trans HB1.out.tape,hg2.output.trans HB1.out.output,Nat.le_trans HB1.out.size hg2.size,fun k hk hne=>(hg2.block k (Nat.lt_of_lt_of_le hk HB1.out.size) hne).trans (HB1.out.block k hk)⟩
 | none =>
   rw[hf] at hfe
   rw[hfe] at HF
   have HD:=hide (IC (st:=st) hf)
   have ha:=Tw l mc
   have hat:=MU l mc
   obtain⟨i0,hi,hz0,hz1,hz2⟩:=info_parts ME
   generalize Fh l mc=a at *
   have haI:(a:Int)≤(l.length:Int):=by omega
   have hlc:=HS.out.2.2.ut.form
   have hlc2:l.length≤c2∧c2≤9223372036854775807:=by
    obtain⟨A',c',e,h1,h2⟩:=hlc
    rw[(Value.slice.inj e).2.2];exact⟨h1,h2⟩
   obtain⟨hlc3,hlc4⟩:=hlc2
   have hacI:(a:Int)≤(c2:Int):=by omega
   have hlcI:(l.length:Int)≤(c2:Int):=by omega
   have HIX:=hide fun(w1:World) (hb1:Below W.heap.size W w1)=>FD 174 #[.pointer (some ⟨bm,0,none⟩)] (fun _ _=>by kernel_rfl) (fun u=>decide (mc<u.1)) A2 c2 l w1 (by omega) (HS.out.2.2.ut.keep (KT.below hb1)) (fun i hi W' hW'=>PP _ mc bm W' ((HS.out.1.below hb1 HS.out.1.lt).below hW' (Nat.lt_of_lt_of_le HS.out.1.lt hb1.size)))
   have HNEW:=hide (show ∀ (w2:World) (j:Nat) (u:Value),(AL [(mc,st)])[j]? = some u→(w2.alloc (.cells #[.int .i64 mc,.int .i64 st] 72)).cell? ((⟨w2.heap.size,0,none⟩:Addr).add j)=some u from fun w2 j u hu=>by
    rw[BA,Nat.zero_add,CZ]
    simpa[AL] using hu)
   have HAF:=hide (show ∀ (w2:World) (v1:Value) (w3:World),UT w2 (.slice A2 l.length c2) l→Below W.heap.size W w2→w3.ownsRow (w2.alloc (.cells #[.int .i64 mc,.int .i64 st] 72)).heap.size 72 2 v1 (a+1) (AL (l.take a)++AL [(mc,st)])→(w2.alloc (.cells #[.int .i64 mc,.int .i64 st] 72)).grownBy w3 none →
    Ad W.heap.size w3 v1 (l.take a ++ [(mc,st)])∧Reads w3 w3.heap.size 2 (if c2=a then A2 else A2.map (·.add (a*2))) (l.length - a) (AL (l.drop a))∧(W.heap.size≤w3.heap.size∧Below W.heap.size W w3)∧∃ A4 c4,v1=.slice A4 (a+1) c4 from by
    intro w2 v1 w3 hut hb ho hg
    have hb3:Below W.heap.size W w3:=(hb.alloc hb.size _).grown hg (by have:=hb.size;simp;omega) (fun k hk=>by cases hk)
    have hlt:(l.take a ++ [(mc,st)]).length=a+1:=by simp;omega
    have hO:Ad W.heap.size w3 v1 (l.take a ++ [(mc,st)]):=by
     unfold Ad
     rw[hlt,DR]
     refine⟨ho.1,?_⟩
     rcases ho.2 with h0|⟨g,cap,cur,e1,e2,h3⟩
     · exact .inl h0
     · exact .inr ⟨g,cap,cur,e1,by have:=hb.size;simp at e2;omega,h3⟩
    have hk:KT 72 w2 w3:=⟨by have:=hg.size;simp at this;omega,fun g cur hbk=>(hbk.alloc _).grown hg (by simp)⟩
    have hr:=(hut.keep hk).reads.cut (k:=a) (cap:=c2) (by omega) (by omega)
    rw[FH] at hr
    obtain⟨A4,c4,e,_⟩:=hO.ut.form
    exact⟨hO,hr,⟨hb3.size,hb3⟩,A4,c4,by rw[e,hlt]⟩)
   have HOLD:=hide (show ∀ (w2:World) (o:Obj),UT w2 (.slice A2 l.length c2) l→∀ b,A2=some b→∀ j u,(AL (l.take a))[j]? = some u→(w2.alloc o).cell? (b.add j)=some u from by
    intro w2 o hut b hb j u hu
    have hn:0<l.length:=by
     rcases Nat.eq_zero_or_pos l.length with h0|h0
     · rw[List.eq_nil_of_length_eq_zero h0] at hu;simp[AL] at hu
     · exact h0
    subst hb
    obtain⟨g,off,e,hgl,_⟩:=hut.some_ hn
    obtain rfl:=Option.some.inj e
    rw[BA]
    refine(World.cell?_alloc_lt _ _ _ hgl).trans ?_
    refine hut.cellsAt hn j u ?_
    rw[← EL,List.getElem?_take] at hu
    split at hu
    · exact hu
    · cases hu)
   clear hf hfe hfi hlc
   obtain⟨g,rfl⟩:=hA2
   rcases hat with h1|⟨h1,h2⟩
   · rw [h1] at HIX
     clear h1
     · by_cases hcc:c2=a
       · obtain rfl:a=l.length:=by omega
         subst hcc
         go_enter Tryz.func172,Tryz.ntmps172
         go_wp2_with (first
          | (go_at_call 169;refine HF.out.mono ?_;rintro e w1 ⟨rfl,hb1⟩
             have HB1:=hide hb1
             have HX:=hide (HIX.out w1 hb1)
             have ml1:=Nat.lt_of_lt_of_le ml hb1.size
             clear hb1)
          | (go_at_call 173;refine HX.out.mono ?_;rintro e w2 ⟨rfl,hb2⟩
             have HB2:=hide (HB1.out.trans (hb2.mono HB1.out.size))
             have hU2:=HS.out.2.1.below HB2.out HS.out.2.1.lt
             have u0:=hU2.cell 0
             have u1:=hU2.cell 1
             have ul:=hU2.lt
             simp at u0 u1
             have HUT:=hide (HS.out.2.2.ut.keep (KT.below HB2.out))
             clear hU2 hb2))
         go_region_law
          ((first
            | (refine step_append_grows rfl _ _ _ rfl 72 i0 _ 2 16 Tryz.underlying57 hi hz0 hz1 hz2 rfl (by decide) (some ⟨g,0,none⟩) l.length l.length (AL (l.take l.length)) rfl (fun h=>by cases h) (by rw[Bi,List.length_take];omega) (HOLD.out _ _ HUT.out) ⟨w2.heap.size,0,none⟩ 1 _ (AL [(mc,st)]) rfl rfl (fun j u hu=>(HNEW.out w2 j u hu)) (Cb _) (by omega) (by unfold maxLen;omega) (by omega) ?_;intro v1 w3 ho1 hg1;have HA:=hide (HAF.out w2 v1 w3 HUT.out HB2.out ho1 ⟨hg1.os,hg1.tape,hg1.output,hg1.size,hg1.block⟩);obtain⟨A4,c4,rfl⟩:=HA.out.2.2.2;clear ho1 hg1)
            | (refine AU rfl _ _ rfl (W.heap.size) (.slice A4 (l.length+1) c4) (l ++ [(mc,st)]) rfl (by simpa using HA.out.1) W.heap.size _ 0 _ [] rfl rfl ⟨by simp[AL],fun h=>absurd h (by simp)⟩ (by simp;omega) HA.out.2.2.1.1 ?_;intro v5 w5 ho5 hg5 _;have HE:=hide (And.intro ho5 hg5);clear ho5 hg5)))
         all_goals
          go_wp2_with fail
          go_ret
          rw[HD.out]
          obtain⟨hO5,hG5⟩:=HE.out
          have hO6:Ad W.heap.size w5 v5 (l.take l.length++(mc,st) :: l.drop l.length):=by
           have e:l ++ [(mc,st)] ++ []=l.take l.length++(mc,st) :: l.drop l.length:=by simp
           rw[← e];exact hO5
          obtain⟨A6,c6,rfl,_⟩:=hO6.ut.form
          have hb5:Below W.heap.size W w5:=HA.out.2.2.1.2.grown hG5 HA.out.2.2.1.1 (fun k hk=>(HA.out.1.lt k hk).1)
          exact⟨A6,c6,rfl,hO6.ut,⟨hb5.os,hb5.tape,hb5.output,hb5.size,fun k hk _=>hb5.block k hk⟩⟩
       · rw [if_neg hcc] at HAF
         simp only[Option.map_some,BA,Nat.zero_add] at HAF
         go_enter Tryz.func172,Tryz.ntmps172
         go_wp2_with (first
          | (go_at_call 169;refine HF.out.mono ?_;rintro e w1 ⟨rfl,hb1⟩
             have HB1:=hide hb1
             have HX:=hide (HIX.out w1 hb1)
             have ml1:=Nat.lt_of_lt_of_le ml hb1.size
             clear hb1)
          | (go_at_call 173;refine HX.out.mono ?_;rintro e w2 ⟨rfl,hb2⟩
             have HB2:=hide (HB1.out.trans (hb2.mono HB1.out.size))
             have hU2:=HS.out.2.1.below HB2.out HS.out.2.1.lt
             have u0:=hU2.cell 0
             have u1:=hU2.cell 1
             have ul:=hU2.lt
             simp at u0 u1
             have HUT:=hide (HS.out.2.2.ut.keep (KT.below HB2.out))
             clear hU2 hb2))
         go_region_law
          ((first
            | (refine step_append_grows rfl _ _ _ rfl 72 i0 _ 2 16 Tryz.underlying57 hi hz0 hz1 hz2 rfl (by decide) (some ⟨g,0,none⟩) a a (AL (l.take a)) rfl (fun h=>by cases h) (by rw[Bi,List.length_take];omega) (HOLD.out _ _ HUT.out) ⟨w2.heap.size,0,none⟩ 1 _ (AL [(mc,st)]) rfl rfl (fun j u hu=>(HNEW.out w2 j u hu)) (Cb _) (by omega) (by unfold maxLen;omega) (by omega) ?_;intro v1 w3 ho1 hg1;have HA:=hide (HAF.out w2 v1 w3 HUT.out HB2.out ho1 ⟨hg1.os,hg1.tape,hg1.output,hg1.size,hg1.block⟩);obtain⟨A4,c4,rfl⟩:=HA.out.2.2.2;clear ho1 hg1)
            | (refine AU rfl _ _ rfl (W.heap.size) _ (l.take a ++ [(mc,st)]) rfl HA.out.1 _ (some ⟨g,a*2,none⟩) (l.length - a) _ (l.drop a) rfl (by simp) HA.out.2.1 (by simp;omega) HA.out.2.2.1.1 ?_;intro v5 w5 ho5 hg5 _;have HE:=hide (And.intro ho5 hg5);clear ho5 hg5)))
         all_goals
          go_wp2_with fail
          go_ret
          rw[HD.out]
          obtain⟨hO5,hG5⟩:=HE.out
          have hO6:Ad W.heap.size w5 v5 (l.take a++(mc,st) :: l.drop a):=by
           have e:l.take a ++ [(mc,st)]++l.drop a=l.take a++(mc,st) :: l.drop a:=by simp
           rw[← e];exact hO5
          obtain⟨A6,c6,rfl,_⟩:=hO6.ut.form
          have hb5:Below W.heap.size W w5:=HA.out.2.2.1.2.grown hG5 HA.out.2.2.1.1 (fun k hk=>(HA.out.1.lt k hk).1)
          exact⟨A6,c6,rfl,hO6.ut,⟨hb5.os,hb5.tape,hb5.output,hb5.size,fun k hk _=>hb5.block k hk⟩⟩
   · rw [h1] at HIX
     subst h2
     clear h1
     · by_cases hcc:c2=l.length
       · subst hcc
         go_enter Tryz.func172,Tryz.ntmps172
         go_wp2_with (first
          | (go_at_call 169;refine HF.out.mono ?_;rintro e w1 ⟨rfl,hb1⟩
             have HB1:=hide hb1
             have HX:=hide (HIX.out w1 hb1)
             have ml1:=Nat.lt_of_lt_of_le ml hb1.size
             clear hb1)
          | (go_at_call 173;refine HX.out.mono ?_;rintro e w2 ⟨rfl,hb2⟩
             have HB2:=hide (HB1.out.trans (hb2.mono HB1.out.size))
             have hU2:=HS.out.2.1.below HB2.out HS.out.2.1.lt
             have u0:=hU2.cell 0
             have u1:=hU2.cell 1
             have ul:=hU2.lt
             simp at u0 u1
             have HUT:=hide (HS.out.2.2.ut.keep (KT.below HB2.out))
             clear hU2 hb2))
         go_region_law
          ((first
            | (refine step_append_grows rfl _ _ _ rfl 72 i0 _ 2 16 Tryz.underlying57 hi hz0 hz1 hz2 rfl (by decide) (some ⟨g,0,none⟩) l.length l.length (AL (l.take l.length)) rfl (fun h=>by cases h) (by rw[Bi,List.length_take];omega) (HOLD.out _ _ HUT.out) ⟨w2.heap.size,0,none⟩ 1 _ (AL [(mc,st)]) rfl rfl (fun j u hu=>(HNEW.out w2 j u hu)) (Cb _) (by omega) (by unfold maxLen;omega) (by omega) ?_;intro v1 w3 ho1 hg1;have HA:=hide (HAF.out w2 v1 w3 HUT.out HB2.out ho1 ⟨hg1.os,hg1.tape,hg1.output,hg1.size,hg1.block⟩);obtain⟨A4,c4,rfl⟩:=HA.out.2.2.2;clear ho1 hg1)
            | (refine AU rfl _ _ rfl (W.heap.size) (.slice A4 (l.length+1) c4) (l ++ [(mc,st)]) rfl (by simpa using HA.out.1) W.heap.size _ 0 _ [] rfl rfl ⟨by simp[AL],fun h=>absurd h (by simp)⟩ (by simp;omega) HA.out.2.2.1.1 ?_;intro v5 w5 ho5 hg5 _;have HE:=hide (And.intro ho5 hg5);clear ho5 hg5)))
         all_goals
          go_wp2_with fail
          go_ret
          rw[HD.out]
          obtain⟨hO5,hG5⟩:=HE.out
          have hO6:Ad W.heap.size w5 v5 (l.take l.length++(mc,st) :: l.drop l.length):=by
           have e:l ++ [(mc,st)] ++ []=l.take l.length++(mc,st) :: l.drop l.length:=by simp
           rw[← e];exact hO5
          obtain⟨A6,c6,rfl,_⟩:=hO6.ut.form
          have hb5:Below W.heap.size W w5:=HA.out.2.2.1.2.grown hG5 HA.out.2.2.1.1 (fun k hk=>(HA.out.1.lt k hk).1)
          exact⟨A6,c6,rfl,hO6.ut,⟨hb5.os,hb5.tape,hb5.output,hb5.size,fun k hk _=>hb5.block k hk⟩⟩
       · rw [if_neg hcc] at HAF
         go_enter Tryz.func172,Tryz.ntmps172
         go_wp2_with (first
          | (go_at_call 169;refine HF.out.mono ?_;rintro e w1 ⟨rfl,hb1⟩
             have HB1:=hide hb1
             have HX:=hide (HIX.out w1 hb1)
             have ml1:=Nat.lt_of_lt_of_le ml hb1.size
             clear hb1)
          | (go_at_call 173;refine HX.out.mono ?_;rintro e w2 ⟨rfl,hb2⟩
             have HB2:=hide (HB1.out.trans (hb2.mono HB1.out.size))
             have hU2:=HS.out.2.1.below HB2.out HS.out.2.1.lt
             have u0:=hU2.cell 0
             have u1:=hU2.cell 1
             have ul:=hU2.lt
             simp at u0 u1
             have HUT:=hide (HS.out.2.2.ut.keep (KT.below HB2.out))
             clear hU2 hb2))
         go_region_law
          ((first
            | (refine step_append_grows rfl _ _ _ rfl 72 i0 _ 2 16 Tryz.underlying57 hi hz0 hz1 hz2 rfl (by decide) (some ⟨g,0,none⟩) l.length l.length (AL (l.take l.length)) rfl (fun h=>by cases h) (by rw[Bi,List.length_take];omega) (HOLD.out _ _ HUT.out) ⟨w2.heap.size,0,none⟩ 1 _ (AL [(mc,st)]) rfl rfl (fun j u hu=>(HNEW.out w2 j u hu)) (Cb _) (by omega) (by unfold maxLen;omega) (by omega) ?_;intro v1 w3 ho1 hg1;have HA:=hide (HAF.out w2 v1 w3 HUT.out HB2.out ho1 ⟨hg1.os,hg1.tape,hg1.output,hg1.size,hg1.block⟩);obtain⟨A4,c4,rfl⟩:=HA.out.2.2.2;clear ho1 hg1)
            | (refine AU rfl _ _ rfl (W.heap.size) (.slice A4 (l.length+1) c4) (l ++ [(mc,st)]) rfl (by simpa using HA.out.1) W.heap.size _ 0 _ [] rfl rfl ⟨by simp[AL],fun h=>absurd h (by simp)⟩ (by simp;omega) HA.out.2.2.1.1 ?_;intro v5 w5 ho5 hg5 _;have HE:=hide (And.intro ho5 hg5);clear ho5 hg5)))
         all_goals
          go_wp2_with fail
          go_ret
          rw[HD.out]
          obtain⟨hO5,hG5⟩:=HE.out
          have hO6:Ad W.heap.size w5 v5 (l.take l.length++(mc,st) :: l.drop l.length):=by
           have e:l ++ [(mc,st)] ++ []=l.take l.length++(mc,st) :: l.drop l.length:=by simp
           rw[← e];exact hO5
          obtain⟨A6,c6,rfl,_⟩:=hO6.ut.form
          have hb5:Below W.heap.size W w5:=HA.out.2.2.1.2.grown hG5 HA.out.2.2.1.1 (fun k hk=>(HA.out.1.lt k hk).1)
          exact⟨A6,c6,rfl,hO6.ut,⟨hb5.os,hb5.tape,hb5.output,hb5.size,fun k hk _=>hb5.block k hk⟩⟩
theorem IE (A:Option Addr) (c:Nat) (p:AA) (item mc st:Int) (w:World) (h:PT w (.slice A p.length c) p) (hs:DW p) :
    Calls Tryz.prog 119 #[.agg #[.slice A p.length c],.int .i64 item,.int .i64 mc,.int .i64 st] w (BG w (Cn p item mc st)):=by
 obtain⟨w1,e1⟩:∃ w1,w1=w.alloc (.cells #[.slice A p.length c] 56):=⟨_,rfl⟩
 obtain⟨w2,e2⟩:∃ w2,w2=w1.alloc (.cells #[.int .i64 item] 3):=⟨_,rfl⟩
 obtain⟨w3,e3⟩:∃ w3,w3=w2.alloc (.cells #[.int .i64 mc] 3):=⟨_,rfl⟩
 obtain⟨w4,e4⟩:∃ w4,w4=w3.alloc (.cells #[.slice none 0 0] 56):=⟨_,rfl⟩
 obtain⟨w5,e5⟩:∃ w5,w5=w4.alloc (.cells #[.int .i64 mc,.int .i64 st] 72):=⟨_,rfl⟩
 have s1:w1.heap.size=w.heap.size+1:=by rw[e1];simp
 have s2:w2.heap.size=w.heap.size+2:=by rw[e2];simp[s1]
 have s3:w3.heap.size=w.heap.size+3:=by rw[e3];simp[s2]
 have s4:w4.heap.size=w.heap.size+4:=by rw[e4];simp[s3]
 have s5:w5.heap.size=w.heap.size+5:=by rw[e5];simp[s4]
 have hb:Below w.heap.size w w5:=by
  rw[e5,e4,e3,e2,e1]
  exact(((((Below.refl w.heap.size w).alloc (Nat.le_refl _) _).alloc (by simp) _).alloc (by simp <;> omega) _).alloc (by simp <;> omega) _).alloc (by simp <;> omega) _
 have b1:AB w1 w.heap.size 56 #[.slice A p.length c]:=by rw[e1];exact AB.new _ _ _
 have b2:AB w2 (w.heap.size+1) 3 #[.int .i64 item]:=by rw[e2,← s1];exact AB.new _ _ _
 have b3:AB w3 (w.heap.size+2) 3 #[.int .i64 mc]:=by rw[e3,← s2];exact AB.new _ _ _
 have b4:AB w4 (w.heap.size+3) 56 #[.slice none 0 0]:=by rw[e4,← s3];exact AB.new _ _ _
 have b5:AB w5 (w.heap.size+4) 72 #[.int .i64 mc,.int .i64 st]:=by rw[e5,← s4];exact AB.new _ _ _
 have g1:AB w5 w.heap.size 56 #[.slice A p.length c]:=by rw[e5,e4,e3,e2];exact(((b1.alloc _).alloc _).alloc _).alloc _
 have g2:AB w5 (w.heap.size+1) 3 #[.int .i64 item]:=by rw[e5,e4,e3];exact((b2.alloc _).alloc _).alloc _
 have g3:AB w5 (w.heap.size+2) 3 #[.int .i64 mc]:=by rw[e5,e4];exact(b3.alloc _).alloc _
 have g4:AB w5 (w.heap.size+3) 56 #[.slice none 0 0]:=by rw[e5];exact b4.alloc _
 have hwl:=Cc p item (CX (AQ p item) mc st)
 have HWI:=hide (NR 172 #[.pointer (some ⟨w.heap.size,0,none⟩),.pointer (some ⟨w.heap.size+1,0,none⟩),.pointer (some ⟨w.heap.size+2,0,none⟩),.pointer (some ⟨w.heap.size+4,0,none⟩)] (fun _ _=>by kernel_rfl) A c p item (CX (AQ p item) mc st) w5 (h.below hb) hs
  (fun W A2 c2 hW hO _=>Q9 w.heap.size (w.heap.size+1) (w.heap.size+2) (w.heap.size+4) A c p item mc st A2 c2 W (g1.below hW (by omega)) (g2.below hW (by omega)) (g3.below hW (by omega)) (b5.below hW (by omega)) ((h.below hb).below hW) hs w5.heap.size hO (by omega)))
 have HB:=hide hb
 have HG4:=hide g4
 have HWL:=hide hwl
 have hE:w5=((((w.alloc (.cells #[.slice A p.length c] 56)).alloc (.cells #[.int .i64 item] 3)).alloc (.cells #[.int .i64 mc] 3)).alloc (.cells #[.slice none 0 0] 56)).alloc (.cells #[.int .i64 mc,.int .i64 st] 72):=by rw[e5,e4,e3,e2,e1]
 have HE:=hide hE
 have HS5:=hide s5
 clear hb hwl e1 e2 e3 e4 e5 s1 s2 s3 s4 s5 b1 b2 b3 b4 b5 g1 g2 g3 g4 h hs hE
 go_enter Tryz.func119,Tryz.ntmps119
 go_wp2_with (
  (go_at_call 170;rw[← HE.out];refine HWI.out.mono ?_;rintro e w6 ⟨A2,c2,rfl,hPT,hb2⟩
   have hY2:=HG4.out.below hb2 HG4.out.lt
   have y0:=hY2.cell 0
   have yf:=hY2.frozen 0
   have yl:=hY2.lt
   simp at y0
   have HY2:=hide hY2
   have HPT:=hide hPT
   have HB2:=hide (HB.out.trans (hb2.mono (by have:=HS5.out;omega)))
   clear hY2 hPT hb2))
 refine bodyPost_ret (v:=.agg #[.slice A2 (BL p item (CX (AQ p item) mc st)).length c2]) (by simp[results,Tryz.results119,go_sem, *]) rfl ?_
 exact⟨A2,c2,rfl,HPT.out.keep (KT.set_ HY2.out (by decide) 0 _) (KT.set_ HY2.out (by decide) 0 _),HB2.out.setCell (by simp <;> omega) _⟩
end Go.Proofs.YtfemlajeomohhaaGreatDoor
