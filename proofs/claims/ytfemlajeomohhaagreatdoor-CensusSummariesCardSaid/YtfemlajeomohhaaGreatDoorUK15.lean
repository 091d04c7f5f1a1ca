/- A part of the claim: see its last text. -/
import Derived.Test.YtfemlajeomohhaaGreatDoorUK14

set_option maxRecDepth 100000
set_option maxHeartbeats 16000000
namespace Go.Proofs.YtfemlajeomohhaaGreatDoor
open Go Go.RowKit Go.Proofs
theorem G5 (h:MH) (m:AC) (by_ mc:Int) (w:World) (d:MD w w.heap.size h m) :
    Calls Tryz.prog 31 #[.agg #[.slice h.s m.sT.length h.sc,.slice h.f m.fT.length h.fc,.slice h.r m.rT.length h.rc,.slice h.m m.mT.length h.mc,.slice h.l m.lT.length h.lc,.slice h.i m.iT.length h.ic,.int .i64 m.dT,.int .i64 m.oT,.int .i64 m.vT,.int .i64 m.aT,.slice h.u m.uT.length h.uc],.int .i64 by_,.int .i64 mc] w (EC m by_ mc w):=by
 have l0:=d.ml
 have l1:=d.rl
 have l2:=d.fl
 have l3:=d.sl
 have hB:∀ b:Bool,b=false∨b=true:=fun b=>by cases b <;> simp
 by_cases hk:by_=1∨by_=2∨by_=3∨by_=4
 · rcases hB (AP mc m.mT.length) with hx|hx
   · rcases hk with rfl|rfl|rfl|rfl
     · exact Kh h m mc w l0 l1 l2 l3 hx
     · exact Kj h m mc w l0 l1 l2 l3 hx
     · exact Kl h m mc w l0 l1 l2 l3 hx
     · exact Kn h m mc w l0 l1 l2 l3 hx
   · have hx2:=hx
     simp only[AP,Bool.and_eq_true,decide_eq_true_eq] at hx2
     obtain⟨a,ha,rfl⟩:∃ a:Nat,a<m.mT.length∧mc=(a:Int)+1:=⟨(mc - 1).toNat,by omega,by omega⟩
     rcases hB (AP m.mT[a].rack m.rT.length) with hr2|hr2
     · rcases hk with rfl|rfl|rfl|rfl
       · exact Ki h m a w d ha hr2
       · exact Kk h m a w d ha hr2
       · exact Km h m a w d ha hr2
       · exact Ko h m a w d ha hr2
     have hr3:=hr2
     simp only[AP,Bool.and_eq_true,decide_eq_true_eq] at hr3
     obtain⟨rk,hrk,er⟩:∃ rk:Nat,rk<m.rT.length∧m.mT[a].rack=(rk:Int)+1:=⟨(m.mT[a].rack - 1).toNat,by omega,by omega⟩
     rcases hk with rfl|rfl|rfl|rfl
     · exact Nj h m a rk w d ha hrk er hx
     · exact Nk h m a rk w d ha hrk er (by rw[← er];exact hr2)
     · rcases hB (AP m.rT[rk].feed m.fT.length) with hf|hf
       · exact Nl h m a rk w d ha hrk er hf
       · exact Nn h m a rk w d ha hrk er hf
     · rcases hB (AP m.rT[rk].site m.sT.length) with hf|hf
       · exact Np h m a rk w d ha hrk er hf
       · exact Nq h m a rk w d ha hrk er hf
 · exact Mi h m by_ mc w l0 l1 l2 l3 hk
def S2(w:World)(M F:Array Value)(W:World):Prop:=AB W w.heap.size 29 M∧AB W (w.heap.size+1) 109 F∧Below w.heap.size w W
theorem S2.start (w:World) (M F:Array Value):S2 w M F ((w.alloc (.cells M 29)).alloc (.cells F 109)) :=
 ⟨(AB.new w _ M).alloc _,by simpa using AB.new (w.alloc (.cells M 29)) 109 F,((Below.refl _ _).alloc (Nat.le_refl _) _).alloc (by simp) _⟩
theorem S2.drew{w:World}{M F:Array Value}{W:World}(s:S2 w M F W):S2 w M F W.drew:=⟨s.1,s.2.1,s.2.2.drew⟩
theorem S2.grow{w:World}{M F:Array Value}{W W2:World}(s:S2 w M F W)(hb:Below W.heap.size W W2):S2 w M F W2:=⟨s.1.below hb s.1.lt,s.2.1.below hb s.2.1.lt,s.2.2.trans (hb.mono s.2.2.size)⟩
theorem S2.cells {w:World} {h:MH} {m:AC} {a b:Int} {W:World} (s:S2 w #[.slice h.s m.sT.length h.sc,.slice h.f m.fT.length h.fc,.slice h.r m.rT.length h.rc,.slice h.m m.mT.length h.mc,.slice h.l m.lT.length h.lc,.slice h.i m.iT.length h.ic,.int .i64 m.dT,.int .i64 m.oT,.int .i64 m.vT,.int .i64 m.aT,.slice h.u m.uT.length h.uc] #[.int .i64 a,.int .i64 b] W):(W.cell? ⟨w.heap.size,0,none⟩=some (.slice h.s m.sT.length h.sc)∧W.cell? ⟨w.heap.size,1,none⟩=some (.slice h.f m.fT.length h.fc)∧W.cell? ⟨w.heap.size,2,none⟩=some (.slice h.r m.rT.length h.rc)∧W.cell? ⟨w.heap.size,3,none⟩=some (.slice h.m m.mT.length h.mc)∧W.cell? ⟨w.heap.size,4,none⟩=some (.slice h.l m.lT.length h.lc)∧W.cell? ⟨w.heap.size,5,none⟩=some (.slice h.i m.iT.length h.ic)∧W.cell? ⟨w.heap.size,6,none⟩=some (.int .i64 m.dT)∧W.cell? ⟨w.heap.size,7,none⟩=some (.int .i64 m.oT)∧W.cell? ⟨w.heap.size,8,none⟩=some (.int .i64 m.vT)∧W.cell? ⟨w.heap.size,9,none⟩=some (.int .i64 m.aT)∧W.cell? ⟨w.heap.size,10,none⟩=some (.slice h.u m.uT.length h.uc)∧W.cell? ⟨w.heap.size+1,0,none⟩=some (.int .i64 a)∧W.cell? ⟨w.heap.size+1,1,none⟩=some (.int .i64 b)) :=
 ⟨s.1.cell 0,s.1.cell 1,s.1.cell 2,s.1.cell 3,s.1.cell 4,s.1.cell 5,s.1.cell 6,s.1.cell 7,s.1.cell 8,s.1.cell 9,s.1.cell 10,s.2.1.cell 0,s.2.1.cell 1⟩
theorem Qp (h:MH) (m:AC) (f:Int×Int) (mc:Int) (w:World) (d:MD w w.heap.size h m) :
    Calls Tryz.prog 210 #[.agg #[.slice h.s m.sT.length h.sc,.slice h.f m.fT.length h.fc,.slice h.r m.rT.length h.rc,.slice h.m m.mT.length h.mc,.slice h.l m.lT.length h.lc,.slice h.i m.iT.length h.ic,.int .i64 m.dT,.int .i64 m.oT,.int .i64 m.vT,.int .i64 m.aT,.slice h.u m.uT.length h.uc],.agg #[.int .i64 f.1,.int .i64 f.2],.int .i64 mc] w fun e w'=>e=.returned (.bool (CV m f mc))∧Below w.heap.size w w':=by
 have HS:=hide (S2.start w #[.slice h.s m.sT.length h.sc,.slice h.f m.fT.length h.fc,.slice h.r m.rT.length h.rc,.slice h.m m.mT.length h.mc,.slice h.l m.lT.length h.lc,.slice h.i m.iT.length h.ic,.int .i64 m.dT,.int .i64 m.oT,.int .i64 m.vT,.int .i64 m.aT,.slice h.u m.uT.length h.uc] #[.int .i64 f.1,.int .i64 f.2])
 have HD:=hide (fun W (hb:Below w.heap.size w W)=>G5 h m f.1 mc W (d.grow hb))
 have hU:undef=Value.tuple #[]:=rfl
 clear d
 by_cases hf:1≤f.2
 · have HV:=hide (show CV m f mc=(BN m f.1 mc == f.2) by unfold CV;rw[decide_eq_true hf,Bool.true_and,Bool.eq_iff_iff,decide_eq_true_eq,beq_iff_eq])
   go_enter Tryz.func210,Tryz.ntmps210
   go_wp2_with fail
   have HC:=hide (HD.out _ HS.out.drew.2.2)
   first
    | (go_region_held3 (fun W=>(W.cell? ⟨w.heap.size,0,none⟩=some (.slice h.s m.sT.length h.sc)∧W.cell? ⟨w.heap.size,1,none⟩=some (.slice h.f m.fT.length h.fc)∧W.cell? ⟨w.heap.size,2,none⟩=some (.slice h.r m.rT.length h.rc)∧W.cell? ⟨w.heap.size,3,none⟩=some (.slice h.m m.mT.length h.mc)∧W.cell? ⟨w.heap.size,4,none⟩=some (.slice h.l m.lT.length h.lc)∧W.cell? ⟨w.heap.size,5,none⟩=some (.slice h.i m.iT.length h.ic)∧W.cell? ⟨w.heap.size,6,none⟩=some (.int .i64 m.dT)∧W.cell? ⟨w.heap.size,7,none⟩=some (.int .i64 m.oT)∧W.cell? ⟨w.heap.size,8,none⟩=some (.int .i64 m.vT)∧W.cell? ⟨w.heap.size,9,none⟩=some (.int .i64 m.aT)∧W.cell? ⟨w.heap.size,10,none⟩=some (.slice h.u m.uT.length h.uc)∧W.cell? ⟨w.heap.size+1,0,none⟩=some (.int .i64 f.1)∧W.cell? ⟨w.heap.size+1,1,none⟩=some (.int .i64 f.2))∧S2 w #[.slice h.s m.sT.length h.sc,.slice h.f m.fT.length h.fc,.slice h.r m.rT.length h.rc,.slice h.m m.mT.length h.mc,.slice h.l m.lT.length h.lc,.slice h.i m.iT.length h.ic,.int .i64 m.dT,.int .i64 m.oT,.int .i64 m.vT,.int .i64 m.aT,.slice h.u m.uT.length h.uc] #[.int .i64 f.1,.int .i64 f.2] W) ((with_reducible (first|(go_keep;done)|exact⟨S2.cells HS.out.drew,HS.out.drew⟩|exact⟨S2.cells c7,c7⟩|(have hH:=(by assumption:_∧S2 _ _ _ _);exact⟨S2.cells (S2.drew hH.2),S2.drew hH.2⟩)))) (((with_reducible refine HC.out.mono ?_);rintro e w1 ⟨rfl,hb1⟩;have c7:=S2.grow HS.out.drew hb1)))
    | fail
   all_goals
    go_wp2_with fail
    go_ret
    exact⟨AJ (by rw[HV.out];rfl),c7.2.2⟩
 · have HF:=hide hf
   have HV:=hide (show CV m f mc=false by unfold CV;rw[decide_eq_false hf,Bool.false_and])
   clear hf
   go_enter Tryz.func210,Tryz.ntmps210
   go_wp2_with fail
   refine(show ∀ W0,S2 w #[.slice h.s m.sT.length h.sc,.slice h.f m.fT.length h.fc,.slice h.r m.rT.length h.rc,.slice h.m m.mT.length h.mc,.slice h.l m.lT.length h.lc,.slice h.i m.iT.length h.ic,.int .i64 m.dT,.int .i64 m.oT,.int .i64 m.vT,.int .i64 m.aT,.slice h.u m.uT.length h.uc] #[.int .i64 f.1,.int .i64 f.2] W0→Code.wp Tryz.prog _ _ _ W0 from ?_) _ HS.out
   intro W0 hS0
   have g1:=hS0.2.1.cell 1
   have gl:=hS0.2.1.lt
   simp at g1
   have HS0:=hide hS0
   have hd:decide (1≤f.2)=false:=decide_eq_false (by have:=HF.out;omega)
   clear hS0
   go_quiet (fail)
   go_wp2_with fail
   go_ret
   exact⟨AJ (by rw[HV.out];rfl),AY HS0.out.2.2 _⟩
def F8(w:World)(L:Nat)(cs:Array Value)(l:List Int):Prop:=AB w L 3 cs∧l.length≤cs.size∧∀ j (hj:j<l.length),cs[j]? = some (.int .i64 l[j])
theorem F8.ints {w:World} {L:Nat} {cs:Array Value} {l:List Int} (h:F8 w L cs l):Ints w w.heap.size (some ⟨L,0,none⟩) l:=by
 obtain⟨h1,h2,h3⟩:=h
 refine⟨by simp,fun _=>⟨_,rfl,AB.lt h1,fun j u hu=>?_⟩⟩
 rw[List.getElem?_map] at hu
 cases hx:l[j]? with
 | none=>rw[hx] at hu;cases hu
 | some x =>
   rw[hx] at hu
   obtain⟨hj,rfl⟩:=List.getElem?_eq_some_iff.1 hx
   have:=(AB.cell h1 j).trans (h3 j hj)
   simp only[Option.map_some,Option.some.injEq] at hu
   rw[← hu,← this]
   congr 1
   unfold Addr.add
   split <;> simp_all
theorem Sc(w:World):(zeroValue 3).run Tryz.prog w=.ok (.int .i64 0) w:=by kernel_rfl
theorem J5 (g:Nat) (lb:Array Value) (eg:∀ args w,(callFunc g args).run Tryz.prog w=.ok (.enter g args) w) (p:Int→Bool) (L c:Nat) (l:List Int) (cs:Array Value) (w:World)
    (hl:l.length≤1000000000) (hR:F8 w L cs l) (hcs:cs.size=c) (hp:∀ (x:Int) (W:World),But L w.heap.size w W→Calls Tryz.prog g (#[.int .i64 x]++lb) W fun e w'=>e=.returned (.bool (p x))∧Below W.heap.size W w') :
    Calls Tryz.prog 208 #[.slice (some ⟨L,0,none⟩) l.length c,.func (.func g) #[] lb] w fun e w' =>
     e=.returned (.slice (some ⟨L,0,none⟩) (l.filter fun x=>!p x).length c)∧(∃ cs',F8 w' L cs' (l.filter fun x=>!p x)∧cs'.size=c)∧But L w.heap.size w w':=by
 have HI:=hide (Dq g lb eg p (some ⟨L,0,none⟩) c l w (by omega) hR.ints fun k hk W hW=>hp l[k] W (But.ofBelow hW))
 have HP:=hide hp
 have hLw:=AB.lt hR.1
 have hlc:l.length≤c:=hcs ▸ hR.2.1
 clear hp
 cases hf:l.findIdx? p with
 | none =>
   have hno:∀ x∈l,p x=false:=by rw[List.findIdx?_eq_none_iff] at hf;exact hf
   have hfl:(l.filter fun x=>!p x)=l:=List.filter_eq_self.2 fun x hx=>by rw[hno x hx];rfl
   have hi:Ae p l = -1:=by unfold Ae;rw[hf]
   rw[hi] at HI
   rw[hfl]
   clear hfl hno hi hf
   go_enter Tryz.func208,Tryz.ntmps208
   go_wp2_with (go_at_call 183;refine HI.out.mono ?_;rintro e w1 ⟨rfl,hb1⟩)
   go_ret
   exact⟨rfl,⟨cs,⟨AB.below hR.1 hb1 hLw,hR.2⟩,hcs⟩,But.ofBelow hb1⟩
 | some i =>
   obtain⟨hil,hpi,hbi⟩:=List.findIdx?_eq_some_iff_getElem.1 hf
   have hi:Ae p l=(i:Int):=by unfold Ae;rw[hf]
   rw[hi] at HI
   have hf0:∀ j,(l.filter fun x=>!p x)=((l.take j).filter fun x=>!p x)++((l.drop j).filter fun x=>!p x):=fun j=>by rw[← List.filter_append,List.take_append_drop]
   have hti:((l.take i).filter fun x=>!p x)=l.take i:=List.filter_eq_self.2 fun x hx=>by
    obtain⟨j,hj,rfl⟩:=List.getElem_of_mem hx
    have hj2:j<i:=by simp at hj;omega
    have:=hbi j hj2
    simp only[List.getElem_take]
    simpa using this
   have hst:((l.take (i+1)).filter fun x=>!p x)=l.take i:=by
    rw[List.take_succ_eq_append_getElem hil,List.filter_append,hti]
    simp[hpi]
   have HST:=hide hst
   clear hst hti hi hf hbi hpi
   go_enter Tryz.func208,Tryz.ntmps208
   have hi0:((i:Int) == -1)=false:=by simp
   go_wp2_with (go_at_call 183;refine HI.out.mono ?_;rintro e w1 ⟨rfl,hb1⟩)
   go_loopw [5,6] (fun vi vj wr=>∃ (m j:Nat) (cs1:Array Value),vi=.int .i64 m∧vj=.int .i64 j∧m<j∧j≤l.length∧Hid (((l.take j).filter fun x=>!p x).length=m)∧AB wr L 3 cs1∧cs1.size=c∧Hid (∀ q (hq:q<((l.take j).filter fun x=>!p x).length),cs1[q]? = some (.int .i64 ((l.take j).filter fun x=>!p x)[q]))∧Hid (∀ q (hq:q<l.length),j≤q→cs1[q]? = some (.int .i64 l[q]))∧But L w.heap.size w wr) (fun _ vj _=>l.length - (intOf vj).toNat)
   case atStart =>
    refine⟨i,i+1,cs,rfl,by go_num,by omega,by omega,hide (by rw[HST.out,List.length_take];omega),AB.below hR.1 hb1 hLw,hcs,?_,?_,But.ofBelow hb1⟩
    · rw[HST.out]
      refine hide fun q hq=>?_
      simp only[List.length_take] at hq
      rw[hR.2.2 q (by omega)]
      simp
    · exact hide fun q hq _=>hR.2.2 q hq
   case round =>
    clear hb1 hR HI HST
    obtain⟨m,j,cs1,rfl,rfl,hmj,hjl,hm,hB,hsz,h1,h2,hBut⟩:=hrel
    by_cases hlt:j<l.length
    · have hcell:=(AB.cell hB j).trans (h2.out j hlt (Nat.le_refl _))
      have hcellm:(wr.cell? ⟨L,m,none⟩).isSome=true:=by rw[AB.cell hB m];simp;omega
      have hf8:=AB.frozen hB m
      have hLr:=AB.lt hB
      have hjI:(j:Int)<(l.length:Int):=by omega
      have htk:(l.take (j+1)).filter (fun x=>!p x)=((l.take j).filter fun x=>!p x)++(if p l[j] then [] else [l[j]]):=by
       rw[List.take_succ_eq_append_getElem hlt,List.filter_append]
       cases hx:p l[j] <;> simp[hx]
      have HC:=HP.out l[j] wr hBut
      cases hpj:p l[j]
      · rw [hpj] at HC
        have HC:=hide HC
        rw[hpj,if_neg (by decide)] at htk
        have HTK:=hide htk
        clear htk
        obtain⟨um,hum⟩:=Option.isSome_iff_exists.1 hcellm
        have hnm:¬ m=j:=by omega
        clear hpj hcellm
        go_wp2_with (refine HC.out.mono ?_;rintro e z ⟨rfl,hz⟩;have hBz:=AB.below hB hz hLr;have zc:=(hz.cell (p:=⟨L,m,none⟩) hLr).trans hum;have zf:=AB.frozen hBz m;have hzl:=AB.lt hBz)
        go_roundw
        case rel =>
         have hml:=hm.out
         refine⟨m+1,j+1,cs1.setIfInBounds m (.int .i64 l[j]),by go_num,by go_num,by omega,by omega,hide (by rw[HTK.out];simp;exact hml),AB.set_ hBz m _,by simp;exact hsz,?_,?_,hBut.trans ((But.ofBelow (hz.mono hBut.size)).trans (But.set_ _ _ _))⟩
         · rw [HTK.out]
           refine hide fun q hq=>?_
           rw[Array.getElem?_setIfInBounds]
           by_cases hqm:m=q
           · subst hqm
             rw[if_pos rfl,if_pos (by omega),List.getElem_append_right (by omega)]
             simp[hml]
           · rw[if_neg hqm]
             have hq2:q<((l.take j).filter fun x=>!p x).length:=by simp at hq;omega
             rw[List.getElem_append_left hq2]
             exact h1.out q hq2
         · refine hide fun q hq hjq=>?_
           rw[Array.getElem?_setIfInBounds,if_neg (by omega)]
           exact h2.out q hq (by omega)
        case measure=>simp[intOf];omega
      · rw[hpj] at HC
        have HC:=hide HC
        rw[hpj,if_pos rfl,List.append_nil] at htk
        have HTK:=hide htk
        clear htk hpj
        go_wp2_with (refine HC.out.mono ?_;rintro e z ⟨rfl,hz⟩)
        go_roundw
        case rel =>
         refine⟨m,j+1,cs1,rfl,by go_num,by omega,by omega,hide (by rw[HTK.out];exact hm.out),AB.below hB hz hLr,hsz,by rw[HTK.out];exact h1,hide fun q hq hjq=>h2.out q hq (by omega),hBut.trans (But.ofBelow (hz.mono hBut.size))⟩
        case measure=>simp[intOf];omega
    · obtain rfl:j=l.length:=by omega
      have hjI:¬ (l.length:Int)<(l.length:Int):=by omega
      rw[List.take_length] at hm h1
      have HM:=hide hm.out
      obtain⟨d,hd⟩:∃ d,l.length=m+(d+1):=⟨l.length - m - 1,by omega⟩
      obtain⟨f,hfc⟩:∃ f,c=m+f:=⟨c - m,by omega⟩
      have hclr:=Lib.run_clear_slice (P:=Tryz.prog) wr 47 3 0 (.int .i64 0) Tryz.underlying47 Sc rfl rfl L m (d+1) f (by omega) (fun q hq=>by rw[AB.cell hB];simp;omega) (fun q _=>AB.frozen hB _)
      have HCL:=hide hclr
      clear hclr
      have hmI:(m:Int)≤(l.length:Int):=by omega
      have e1:l.length - m=d+1:=by omega
      have e2:c - m=f:=by omega
      go_wp2_with (rw[HCL.out];simp only[Result.andThen_ok,Oper.upon_value])
      obtain⟨cs',k1,k2,k3⟩:=AB.setCells_ (List.replicate (d+1) (.int .i64 0)) m cs1 wr hB
      go_ret
      refine⟨?_,⟨cs',⟨k1,by rw[HM.out];omega,fun q hq=>?_⟩,by omega⟩,hBut.trans (But.setCells_ _ _ _)⟩
      · rw[HM.out];rfl
      · rw[k3 q (by have:=HM.out;omega)]
        exact h1.out q hq
def FR(w:World)(B:Nat)(A:Option Addr)(l:List (Int×Int)):Prop:=Reads w B 2 A l.length (AL l)
theorem FR.below{w w':World}{B:Nat}{A:Option Addr}{l:List (Int×Int)}(h:FR w B A l)(hb:Below B w w'):FR w' B A l:=Reads.below h hb
theorem FR.more{w:World}{B B':Nat}{A:Option Addr}{l:List (Int×Int)}(h:FR w B A l)(hb:B≤B'):FR w B' A l:=Reads.more h hb
theorem FR.grow{w w':World}{A:Option Addr}{l:List (Int×Int)}(h:FR w w.heap.size A l)(hb:Below w.heap.size w w'):FR w' w'.heap.size A l:=(h.below hb).more hb.size
theorem FR.at_ {w:World} {B:Nat} {A:Option Addr} {l:List (Int×Int)} (h:FR w B A l) {i:Nat} (hi:i<l.length):∃ b off,A=some ⟨b,off,none⟩∧b<B∧w.cell? ⟨b,off+i*2,none⟩=some (.int .i64 l[i].1)∧w.cell? ⟨b,off+i*2+1,none⟩=some (.int .i64 l[i].2):=by
 obtain⟨b,off,e,hb,hc⟩:=Reads.form h (by rw[Bi];omega)
 obtain⟨q1,q2⟩:=DT l i hi
 exact⟨b,off,e,hb,hc _ _ q1,by rw[Nat.add_assoc];exact hc _ _ q2⟩
def PR(w:World)(B:Nat)(A:Option Addr)(p:AA):Prop:=∀ i (hi:i<p.length),∃ b off A2 c2,A=some ⟨b,off,none⟩∧b<B∧w.cell? ⟨b,off+i,none⟩=some (.slice A2 p[i].length c2)∧p[i].length≤c2∧c2≤9223372036854775807∧FR w B A2 p[i]
theorem PR.below {w w':World} {B:Nat} {A:Option Addr} {p:AA} (h:PR w B A p) (hb:Below B w w'):PR w' B A p:=fun i hi=>by
 obtain⟨b,off,A2,c2,e,hl,hc,h1,h2,h3⟩:=h i hi
 exact⟨b,off,A2,c2,e,hl,(hb.cell (p:=⟨b,off+i,none⟩) hl).trans hc,h1,h2,h3.below hb⟩
theorem PR.more {w:World} {B B':Nat} {A:Option Addr} {p:AA} (h:PR w B A p) (hb:B≤B'):PR w B' A p:=fun i hi=>by
 obtain⟨b,off,A2,c2,e,hl,hc,h1,h2,h3⟩:=h i hi
 exact⟨b,off,A2,c2,e,Nat.lt_of_lt_of_le hl hb,hc,h1,h2,h3.more hb⟩
theorem PR.grow{w w':World}{A:Option Addr}{p:AA}(h:PR w w.heap.size A p)(hb:Below w.heap.size w w'):PR w' w'.heap.size A p:=(h.below hb).more hb.size
theorem UT.fr{w:World}{A:Option Addr}{c:Nat}{l:List AO}(h:UT w (.slice A l.length c) l):FR w w.heap.size A l:=h.reads
theorem PT.pr {w:World} {A:Option Addr} {c:Nat} {p:AA} (h:PT w (.slice A p.length c) p):PR w w.heap.size A p:=fun i hi=>by
 obtain⟨b,off,A2,c2,e,hb,hc,hu⟩:=h.at_ hi
 obtain⟨A3,c3,e3,h1,h2⟩:=hu.form
 injection e3 with e4 e5 e6
 subst e4 e6
 exact⟨b,off,A2,c2,e,hb,hc,h1,h2,hu.fr⟩
def QS(w:World)(l:List AO)(e:Ending)(w':World):Prop:=∃ A c,e=.returned (.slice A l.length c)∧FR w' w'.heap.size A l∧Below w.heap.size w w'
def GZ(w:World)(l:List Int)(e:Ending)(w':World):Prop:=∃ v,e=.returned v∧Av w.heap.size w' v l∧Below w.heap.size w w'
theorem Av.keep {B:Nat} {w w':World} {v:Value} {l:List Int} (h:Av B w v l) (hk:KT 3 w w'):Av B w' v l:=by
 refine⟨h.1,?_⟩
 rcases h.2 with h0|⟨g,cap,cur,e1,e2,h3,h4⟩
 · exact .inl h0
 · exact .inr ⟨g,cap,cur,e1,e2,hk.2 _ _ h3,h4⟩
theorem Fx {w:World} {B B':Nat} {v:Value} {l:List Int} (h:Av B' w v l) (hB:B≤B'):Av B w v l:=by
 refine⟨h.1,?_⟩
 rcases h.2 with h0|⟨g,cap,cur,e1,e2,h3⟩
 · exact .inl h0
 · exact .inr ⟨g,cap,cur,e1,by omega,h3⟩
def U1(l:List AO)(p:AO→Bool)(w:World)(v i:Value)(wr:World):Prop:=∃ k:Nat,k≤l.length∧i=.int .i64 k∧Hid (Ad w.heap.size wr v ((l.take k).filter p))∧Below w.heap.size w wr
theorem Kt (g:Nat) (lb:Array Value) (eg:∀ args w,(callFunc g args).run Tryz.prog w=.ok (.enter g args) w) (p:AO→Bool) (A:Option Addr) (c:Nat) (l:List AO) (w:World) (h:FR w w.heap.size A l) (hl:l.length≤1000) (hp:MO g lb l p w) :
    Calls Tryz.prog 74 #[.slice A l.length c,.func (.func g) #[] lb] w (fun e w'=>∃ v,e=.returned v∧Ad w.heap.size w' v (l.filter p)∧Below w.heap.size w w'):=by
 have HP:=hide hp
 have H0:=hide (Ad.nil_ w.heap.size w)
 clear hp
 go_enter Tryz.func74,Tryz.ntmps74
 go_wp2_with fail
 go_loopw [5,10] (fun v i wr=>U1 l p w v i wr) (fun _ i _=>l.length - (intOf i).toNat)
 case atStart=>exact⟨0,Nat.zero_le _,rfl,H0,Below.refl _ _⟩
 case round =>
  clear H0
  obtain⟨k,hk,rfl,hM,hbr⟩:=hrel
  by_cases hlt:k<l.length
  · obtain ⟨b,off,hA,hb,x0,x1⟩:=(h.grow hbr).at_ hlt
    subst hA
    obtain⟨x,hx⟩:∃ x,x=l[k]:=⟨_,rfl⟩
    have hfx:(l.take (k+1)).filter p=(l.take k).filter p++if p x then [x] else []:=by
     rw[List.take_succ_eq_append_getElem hlt,List.filter_append,hx]
     cases e:p l[k] <;> simp[e]
    obtain⟨q,hq⟩:∃ q,q=(l.take k).filter p:=⟨_,rfl⟩
    have hql:q.length≤1000:=by
     rw[hq];have:=List.length_filter_le p (l.take k);simp at this;omega
    have HC:=HP.out k hlt
    rw[← hx] at HC x0 x1
    rw[← hq] at hM hfx
    have HFX:=hide hfx
    have HC:=hide (HC (wr.alloc (.cells #[.int .i64 x.1,.int .i64 x.2] 72)) (hbr.alloc hbr.size _))
    have hbw:=hide hbr
    clear hfx hx hq
    cases hpx:p x
    · rw[hpx] at HC HFX
      go_wp2_with (refine HC.out.mono ?_;rintro e w2 ⟨rfl,hb2⟩)
      go_roundw
      case rel =>
       have hb:Below wr.heap.size wr w2:=((Below.refl wr.heap.size wr).alloc (Nat.le_refl _) (.cells #[.int .i64 x.1,.int .i64 x.2] 72)).trans (hb2.mono (by simp))
       exact⟨k+1,by omega,by go_num,hide (by rw[HFX.out];simpa using hM.out.keep (KT.below hb)),hbw.out.trans (hb.mono hbw.out.size)⟩
      case measure=>simp[intOf];omega
    · rw [hpx] at HC HFX
      have HX:=hide (AB.new wr 72 #[.int .i64 x.1,.int .i64 x.2])
      go_wp2_with (first
       | (refine HC.out.mono ?_;rintro e w2 ⟨rfl,hb2⟩
          have hb:Below wr.heap.size wr w2:=((Below.refl wr.heap.size wr).alloc (Nat.le_refl _) (.cells #[.int .i64 x.1,.int .i64 x.2] 72)).trans (hb2.mono (by simp))
          have hx2:=HX.out.below hb2 (by simp)
          have y0:=hx2.cell 0
          have y1:=hx2.cell 1
          have yl:=hx2.lt
          simp at y0 y1
          have HO2:=hide ((hM.out.keep (KT.below hb)).keep (KT.alloc w2 (.cells #[.int .i64 x.1,.int .i64 x.2] 72)))
          have HR2:=hide (show Reads (w2.alloc (.cells #[.int .i64 x.1,.int .i64 x.2] 72)) (w2.heap.size+1) 2 (some ⟨w2.heap.size,0,none⟩) 1 (AL [(x.1,x.2)]) from⟨rfl,fun _=>⟨_,rfl,by simp,fun j u hu=>by rw[BA,Nat.zero_add,CZ];simpa[AL] using hu⟩⟩)
          have HB2:=hide hb
          have HZ2:=hide (show w.heap.size≤(w2.alloc (.cells #[.int .i64 x.1,.int .i64 x.2] 72)).heap.size by have:=hbw.out.size;have:=hb.size;simp;omega)
          clear hb hx2 hb2)
       | (at_builtin;refine Dn rfl _ _ rfl w.heap.size _ q rfl HO2.out (w2.heap.size+1) (some ⟨w2.heap.size,0,none⟩) 1 _ [(x.1,x.2)] rfl rfl HR2.out (by simp;omega) HZ2.out ?_;intro v3 w3 ho3 hg3 _;have ho3:=hide ho3;have hg3:=hide hg3))
      have hb3:Below w.heap.size w w3:=((hbw.out.trans (HB2.out.mono hbw.out.size)).alloc (by have:=hbw.out.size;have:=HB2.out.size;omega) (.cells #[.int .i64 x.1,.int .i64 x.2] 72)).grown hg3.out (by have:=hbw.out.size;have:=HB2.out.size;simp;omega) (fun g hg=>(HO2.out.lt g hg).1)
      go_roundw
      case rel=>exact⟨k+1,by omega,by go_num,hide (by rw[HFX.out];simpa using ho3.out),hb3⟩
      case measure=>simp[intOf];omega
  · obtain rfl:k=l.length:=by omega
    have hM2:=hM.out
    rw[List.take_length] at hM2
    have HM:=hide hM2
    clear hM hM2
    go_wp2_with fail
    go_ret
    exact⟨_,rfl,HM.out,hbr⟩
theorem K3 (u:AO) (w:World):Calls Tryz.prog 78 #[.agg #[.int .i64 u.1,.int .i64 u.2]] w fun e w'=>e=.returned (.int .i64 u.1)∧Below w.heap.size w w':=by
 have HB:=hide ((Below.refl w.heap.size w).alloc (Nat.le_refl _) (.cells #[.int .i64 u.1,.int .i64 u.2] 72))
 go_enter Tryz.func78,Tryz.ntmps78
 go_wp2_with fail
 go_ret
 exact⟨rfl,HB.out⟩
theorem Rw (u:AO) (st:Int) (bx:Nat) (W:World) (hX:AB W bx 3 #[.int .i64 st]) :
    Calls Tryz.prog 76 #[.agg #[.int .i64 u.1,.int .i64 u.2],.pointer (some ⟨bx,0,none⟩)] W fun e w'=>e=.returned (.bool (decide (u.2=st)))∧Below W.heap.size W w':=by
 have x0:=hX.cell 0
 have hlt:=hX.lt
 simp at x0
 have HB:=hide ((Below.refl W.heap.size W).alloc (Nat.le_refl _) (.cells #[.int .i64 u.1,.int .i64 u.2] 72))
 go_enter Tryz.func76,Tryz.ntmps76
 go_wp2_with fail
 go_ret
 exact⟨rfl,HB.out⟩
def Ue(l:List AO)(w:World)(v i:Value)(wr:World):Prop:=∃ k:Nat,k≤l.length∧i=.int .i64 k∧Hid (Av w.heap.size wr v ((l.take k).map (·.1)))∧Below w.heap.size w wr
theorem OG (A:Option Addr) (c:Nat) (l:List AO) (w:World) (h:FR w w.heap.size A l) (hl:l.length≤1000) :
    Calls Tryz.prog 77 #[.slice A l.length c,.func (.func 78) #[] #[]] w (GZ w (l.map (·.1))):=by
 have H0:=hide (Av.nil_ w.heap.size w)
 go_enter Tryz.func77,Tryz.ntmps77
 go_wp2_with fail
 go_loopw [5,10] (fun v i wr=>Ue l w v i wr) (fun _ i _=>l.length - (intOf i).toNat)
 case atStart=>exact⟨0,Nat.zero_le _,rfl,H0,Below.refl _ _⟩
 case round =>
  clear H0
  obtain⟨k,hk,rfl,hM,hbr⟩:=hrel
  by_cases hlt:k<l.length
  · obtain ⟨b,off,hA,hb,x0,x1⟩:=(h.grow hbr).at_ hlt
    subst hA
    obtain⟨x,hx⟩:∃ x,x=l[k]:=⟨_,rfl⟩
    have HFX:=hide (show(l.take (k+1)).map (·.1)=(l.take k).map (·.1) ++ [x.1] by rw[List.take_succ_eq_append_getElem hlt,List.map_append,hx];rfl)
    obtain⟨q,hq⟩:∃ q,q=(l.take k).map (·.1):=⟨_,rfl⟩
    have hql:q.length≤1000:=by rw[hq];simp;omega
    rw[← hq] at hM HFX
    rw[← hx] at x0 x1
    have HC:=hide (K3 x (wr.alloc (.cells #[.int .i64 x.1,.int .i64 x.2] 72)))
    have hbw:=hide hbr
    clear hx hq
    go_wp2_with (first
     | (refine HC.out.mono ?_;rintro e w2 ⟨rfl,hb2⟩
        have hb:Below wr.heap.size wr w2:=((Below.refl wr.heap.size wr).alloc (Nat.le_refl _) (.cells #[.int .i64 x.1,.int .i64 x.2] 72)).trans (hb2.mono (by simp))
        obtain⟨A3,c3,rfl,hc3,_⟩:=(hM.out.below hb).form
        have HO2:=hide ((hM.out.below hb).alloc (.cells #[.int .i64 x.1] 3))
        have HR2:=hide (Ints.newRow2 w2 (b:=w2.heap.size) 3 [x.1] rfl)
        have HB2:=hide hb
        have HZ2:=hide (show w.heap.size≤(w2.alloc (.cells #[.int .i64 x.1] 3)).heap.size by have:=hbw.out.size;have:=hb.size;simp;omega)
        clear hb hb2)
     | (at_builtin;refine FN rfl _ _ rfl w.heap.size _ q rfl HO2.out (w2.heap.size+1) (some ⟨w2.heap.size,0,none⟩) 1 [x.1] rfl HR2.out (by simp;omega) HZ2.out ?_;intro v3 w3 ho3 hg3 _;have ho3:=hide ho3;have hg3:=hide hg3))
    have hb3:Below w.heap.size w w3:=((hbw.out.trans (HB2.out.mono hbw.out.size)).alloc (by have:=hbw.out.size;have:=HB2.out.size;omega) (.cells #[.int .i64 x.1] 3)).grown hg3.out (by have:=hbw.out.size;have:=HB2.out.size;simp;omega) (fun g hg=>(HO2.out.lt g hg).1)
    go_roundw
    case rel=>exact⟨k+1,by omega,by go_num,hide (by rw[HFX.out];exact ho3.out),hb3⟩
    case measure=>simp[intOf];omega
  · obtain rfl:k=l.length:=by omega
    have hM2:=hM.out
    rw[List.take_length] at hM2
    have HM:=hide hM2
    clear hM hM2
    go_wp2_with fail
    go_ret
    exact⟨_,rfl,HM.out,hbr⟩
theorem Q8 (A:Option Addr) (c:Nat) (p:AA) (item:Int) (w:World) (h:PR w w.heap.size A p) (hl:p.length≤9223372036854775807) :
    Calls Tryz.prog 75 #[.agg #[.slice A p.length c],.int .i64 item] w (QS w (AQ p item)):=by
 have HB:=hide ((Below.refl w.heap.size w).alloc (Nat.le_refl _) (.cells #[.slice A p.length c] 56))
 by_cases e1:item<1
 · have HU:=hide (Du (p:=p) (item:=item) (by simp[AP];omega))
   go_enter Tryz.func75,Tryz.ntmps75
   go_wp2_with fail
   go_ret
   rw[HU.out]
   exact⟨none,0,rfl,⟨rfl,fun h0=>absurd h0 (by simp)⟩,HB.out⟩
 by_cases e2:(p.length:Int)<item
 · have HU:=hide (Du (p:=p) (item:=item) (by simp[AP];omega))
   go_enter Tryz.func75,Tryz.ntmps75
   go_wp2_with fail
   go_ret
   rw[HU.out]
   exact⟨none,0,rfl,⟨rfl,fun h0=>absurd h0 (by simp)⟩,HB.out⟩
 · obtain⟨j,hj,rfl⟩:∃ j:Nat,j<p.length∧item=(j:Int)+1:=⟨(item - 1).toNat,by omega,by omega⟩
   obtain⟨b,off,A2,c2,rfl,hb,x0,_,_,hu⟩:=h j hj
   have HU:=hide (DJ hj)
   have HT:=hide hu
   have hjI:(j:Int)<(p.length:Int):=by omega
   clear hu h
   go_enter Tryz.func75,Tryz.ntmps75
   go_wp2_with fail
   go_ret
   rw[HU.out]
   exact⟨A2,c2,rfl,HT.out.grow HB.out,HB.out⟩
theorem FE (A:Option Addr) (c:Nat) (p:AA) (item st:Int) (w:World) (h:PR w w.heap.size A p) (hl:p.length≤1000) (hul:(AQ p item).length≤1000) :
    Calls Tryz.prog 34 #[.agg #[.slice A p.length c],.int .i64 item,.int .i64 st] w (GZ w (Af p item st)):=by
 have hB:Below w.heap.size w ((w.alloc (.cells #[.slice A p.length c] 56)).alloc (.cells #[.int .i64 st] 3)):=((Below.refl _ _).alloc (Nat.le_refl _) _).alloc (by simp) _
 have HB:=hide hB
 have HU:=hide (Q8 A c p item _ (h.grow hB) (by omega))
 have HX:=hide (AB.new (w.alloc (.cells #[.slice A p.length c] 56)) 3 #[.int .i64 st])
 clear hB h
 go_enter Tryz.func34,Tryz.ntmps34
 go_wp2_with (first
  | (go_at_call 75;refine HU.out.mono ?_;rintro e w1 ⟨A2,c2,rfl,hu,hb1⟩
     have HI:=hide (Kt 76 #[.pointer (some ⟨w.heap.size+1,0,none⟩)] (fun _ _=>by kernel_rfl) (fun u=>decide (u.2=st)) A2 c2 (AQ p item) w1 hu (by omega) (fun i hi W hW=>Rw _ st _ W (by
      have h1:=HX.out.below hb1 (by simp)
      have h2:=h1.below hW h1.lt
      simpa using h2)))
     have HB1:=hide hb1
     clear hu hb1)
  | (go_at_call 74;refine HI.out.mono ?_;rintro e w2 ⟨v2,rfl,ho2,hb2⟩
     obtain⟨A3,c3,rfl,_⟩:=ho2.ut.form
     have HB2:=hide hb2
     have HM:=hide (OG A3 c3 ((AQ p item).filter fun u=>decide (u.2=st)) w2 ho2.ut.fr (by have:=List.length_filter_le (fun u:AO=>decide (u.2=st)) (AQ p item);omega))
     clear ho2 hb2)
  | (go_at_call 77;refine HM.out.mono ?_;rintro e w3 ⟨v3,rfl,ho3,hb3⟩;have HO3:=hide ho3;have HB3:=hide hb3;clear ho3 hb3))
 go_ret
 have hb01:=HB.out.trans (HB1.out.mono HB.out.size)
 have hb02:=hb01.trans (HB2.out.mono hb01.size)
 exact⟨v3,rfl,Fx HO3.out hb02.size,hb02.trans (HB3.out.mono hb02.size)⟩
end Go.Proofs.YtfemlajeomohhaaGreatDoor
