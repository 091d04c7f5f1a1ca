/- A part of the claim: see its last text. -/
import Derived.Test.YtfemlajeomohhaaGreatDoorUK27
import Derived.Test.YtfemlajeomohhaaGreatDoorUK26

set_option maxRecDepth 100000
set_option maxHeartbeats 16000000
namespace Go.Proofs.YtfemlajeomohhaaGreatDoor
open Go Go.RowKit Go.Proofs
theorem I6 {w:World} {h:MH} {m:AC} (d:MD w w.heap.size h m):∀ s∈AV m,s.size≤9223372036854775807:=by
 intro s hs
 simp only[AV,List.mem_append,List.mem_map] at hs
 rcases hs with(((hs|hs)|⟨x,hx,rfl⟩)|⟨x,hx,rfl⟩)|⟨x,hx,rfl⟩
 · exact d.sf _ hs
 · exact d.ff _ hs
 · obtain⟨i,hi,rfl⟩:=List.getElem_of_mem hx
   obtain⟨_,_,_,_,_,_,_,hz⟩:=d.dR.rack hi
   exact hz
 · obtain⟨i,hi,rfl⟩:=List.getElem_of_mem hx
   obtain⟨_,_,_,_,_,_,_,hz⟩:=d.dM.mach hi
   exact hz
 · obtain⟨i,hi,rfl⟩:=List.getElem_of_mem hx
   obtain⟨_,_,_,_,_,_,_,_,_,_,_,_,_,hz,_⟩:=d.dI.item hi
   exact hz
theorem QI{m:AC}(h:Bd m=false):Ab m=false:=by simp[Ab,h]
theorem Od{m:AC}(h:8<m.iT.length):Ab m=false:=by simp[Ab];omega
theorem Oh{m:AC}(h:40<m.uT.length):Ab m=false:=by simp[Ab];omega
theorem Oe{m:AC}(h:EE m=false):Ab m=false:=by simp[Ab,h]
theorem QF{m:AC}{k:Nat}(hk:k<m.iT.length)(h:BM m m.iT[k]=false):Ab m=false:=by simp[Ab,ES hk h]
theorem QH{m:AC}{k:Nat}(hk:k<m.uT.length)(h:Aj m m.uT[k]=false):Ab m=false:=by simp[Ab,ES hk h]
theorem QG {m:AC} (h1:Bd m=true) (h2:¬ 8<m.iT.length) (h3:¬ 40<m.uT.length) (h4:EE m=true) (h5:m.iT.all (BM m)=true) (h6:m.uT.all (Aj m)=true):Ab m=FZ m:=by
 simp only[Ab,h1,h4,h5,h6];simp;omega
theorem II {m:AC} (h:Bd m=true):m.sT.length≤100∧m.fT.length≤100∧m.rT.length≤100∧m.mT.length≤100:=by
 simp[Bd,AP] at h;omega
theorem He (h:MH) (m:AC) (w:World) (d:MD w w.heap.size h m) :
    Calls Tryz.prog 6 #[.agg #[.slice h.s m.sT.length h.sc,.slice h.f m.fT.length h.fc,.slice h.r m.rT.length h.rc,.slice h.m m.mT.length h.mc,.slice h.l m.lT.length h.lc,.slice h.i m.iT.length h.ic,.int .i64 m.dT,.int .i64 m.oT,.int .i64 m.vT,.int .i64 m.aT,.slice h.u m.uT.length h.uc]] w fun e w'=>e=.returned (.bool (Ab m))∧Below w.heap.size w w':=by
 have hl5:=d.il
 have hl6:=d.ul
 have hl0:=d.sl
 have hfit:=I6 d
 have HW0:=hide (MW.start w h m)
 have D:=hide d
 have hS:=L9 h m (w.alloc (.cells #[.slice h.s m.sT.length h.sc,.slice h.f m.fT.length h.fc,.slice h.r m.rT.length h.rc,.slice h.m m.mT.length h.mc,.slice h.l m.lT.length h.lc,.slice h.i m.iT.length h.ic,.int .i64 m.dT,.int .i64 m.oT,.int .i64 m.vT,.int .i64 m.aT,.slice h.u m.uT.length h.uc] 29)) ((MW.start w h m).md d)
 clear d
 cases e1:Bd m
 · have HV:=hide (QI e1)
   rw[e1] at hS
   have HS:=hide hS
   clear hS e1 hfit
   go_enter Tryz.func6,Tryz.ntmps6
   go_wp2_with (go_at_call 17;refine HS.out.mono ?_;rintro e w1 ⟨rfl,hb1⟩;have hW1:=HW0.out.grow hb1)
   go_ret
   exact⟨AJ (by rw[HV.out];rfl),hW1.b⟩
 rw[e1] at hS
 have HS:=hide hS
 clear hS
 by_cases e2:8<m.iT.length
 · have HV:=hide (Od e2)
   clear e1 hfit
   go_enter Tryz.func6,Tryz.ntmps6
   go_wp2_with (go_at_call 17;refine HS.out.mono ?_;rintro e w1 ⟨rfl,hb1⟩;have hW1:=HW0.out.grow hb1;obtain⟨a0,a1,a2,a3,a4,a5,a6,a7,a8,a9,a10⟩:=MB.cells hW1.blk;have ha:=hW1.lt;clear hb1)
   go_ret
   exact⟨AJ (by rw[HV.out];rfl),hW1.b⟩
 by_cases e3:40<m.uT.length
 · have HV:=hide (Oh e3)
   clear e1 hfit
   go_enter Tryz.func6,Tryz.ntmps6
   go_wp2_with (go_at_call 17;refine HS.out.mono ?_;rintro e w1 ⟨rfl,hb1⟩;have hW1:=HW0.out.grow hb1;obtain⟨a0,a1,a2,a3,a4,a5,a6,a7,a8,a9,a10⟩:=MB.cells hW1.blk;have ha:=hW1.lt;clear hb1)
   go_ret
   exact⟨AJ (by rw[HV.out];rfl),hW1.b⟩
 obtain⟨z1,z2,z3,z4⟩:=II e1
 have HN:=hide fun(W:World) (hW:MW w w.heap.size W h m)=>Pb h m W (hW.md D.out) z1 z2 z3 z4 (by omega) hfit
 clear hfit z1 z2 z3 z4
 cases e4:EE m
 · have HV:=hide (Oe e4)
   rw[e4] at HN
   clear e1 e4
   go_enter Tryz.func6,Tryz.ntmps6
   go_wp2_with (first
    | (go_at_call 17;refine HS.out.mono ?_;rintro e w1 ⟨rfl,hb1⟩;have hW1:=HW0.out.grow hb1;obtain⟨a0,a1,a2,a3,a4,a5,a6,a7,a8,a9,a10⟩:=MB.cells hW1.blk;have ha:=hW1.lt;clear hb1)
    | (go_at_call 18;refine(HN.out _ hW1).mono ?_;rintro e w2 ⟨rfl,hb2⟩;have hW2:=hW1.grow hb2))
   go_ret
   exact⟨AJ (by rw[HV.out];rfl),hW2.b⟩
 rw[e4] at HN
 have HR:=hide fun h5 h6=>QG e1 e2 e3 e4 h5 h6
 clear e1 e4
 go_enter Tryz.func6,Tryz.ntmps6
 go_wp2_with (first
  | (go_at_call 17;refine HS.out.mono ?_;rintro e w1 ⟨rfl,hb1⟩;have hW1:=HW0.out.grow hb1;obtain⟨a0,a1,a2,a3,a4,a5,a6,a7,a8,a9,a10⟩:=MB.cells hW1.blk;have ha:=hW1.lt;clear hb1)
  | (go_at_call 18;refine(HN.out _ hW1).mono ?_;rintro e w2 ⟨rfl,hb2⟩;have hW2:=hW1.grow hb2))
 have HW2:=hide hW2
 clear e2 e3 hW1 hW2 hb2 a0 a1 a2 a3 a4 a5 a6 a7 a8 a9 a10 HS HN
 go_loopw [3] (fun i wr=>∃ k:Nat,k≤m.iT.length∧i=.int .i64 k∧Hid (MW w w.heap.size wr h m)∧Hid (∀ j (hj:j<m.iT.length),j<k→BM m m.iT[j]=true)) (fun i _=>m.iT.length - (intOf i).toNat)
 case atStart=>exact⟨0,Nat.zero_le _,rfl,HW2,fun j hj h0=>absurd h0 (by omega)⟩
 case round =>
  clear HW2
  obtain⟨k,hk,rfl,hW,hs⟩:=hrel
  obtain⟨a0,a1,a2,a3,a4,a5,a6,a7,a8,a9,a10⟩:=MB.cells hW.out.blk
  have hlt0:=hW.out.lt
  by_cases hlt:k<m.iT.length
  · obtain ⟨b,off,A2,c2,hA,hb,x0,x1,x2,x3,x4,x5,x6,g1,g2,g3,gI⟩:=(hW.out.md D.out).dI.item hlt
    have hb1:=hide fun(n:Nat)=>PU { h with i:=some ⟨b,off,none⟩ } m m.iT[k] A2 c2 (wr.drewN n) (by omega) (gI.grow (AY (Below.refl _ _) n))
    have HC:=hide (show Calls Tryz.prog 19 #[.agg #[.slice h.s m.sT.length h.sc,.slice h.f m.fT.length h.fc,.slice h.r m.rT.length h.rc,.slice h.m m.mT.length h.mc,.slice h.l m.lT.length h.lc,.slice (some ⟨b,off,none⟩) m.iT.length h.ic,.int .i64 m.dT,.int .i64 m.oT,.int .i64 m.vT,.int .i64 m.aT,.slice h.u m.uT.length h.uc],.agg #[.string m.iT[k].name,.int .i64 m.iT[k].kind,.int .i64 m.iT[k].count,.int .i64 m.iT[k].load,.int .i64 m.iT[k].size,.int .i64 m.iT[k].share,.slice A2 m.iT[k].on.length c2]] wr.drew (fun e w'=>e=.returned (.bool (BM m m.iT[k]))∧Below wr.drew.heap.size wr.drew w') from hb1.out 1)
    rw[hA] at a5
    have hltI:(k:Int)<(m.iT.length:Int):=by omega
    clear hA hb1 gI
    cases e5:BM m m.iT[k]
    · have HV:=hide (QF hlt e5)
      rw[e5] at HC
      go_wp2_with fail
      go_region_with ((with_reducible refine HC.out.mono ?_);rintro e w3 ⟨rfl,hb3⟩)
      all_goals
       go_wp2_with fail
       go_ret
       exact⟨AJ (by rw[HV.out];rfl),(hW.out.drew.grow hb3).b⟩
    · rw [e5] at HC
      have HK:=hide e5
      clear e5
      go_wp2_with fail
      go_region_with ((with_reducible refine HC.out.mono ?_);rintro e w3 ⟨rfl,hb3⟩)
      all_goals
       go_wp2_with fail
       go_roundw
       case rel=>exact⟨k+1,by omega,by go_num,hide (hW.out.drew.grow hb3),fun j hj h1=>by
        rcases Nat.lt_or_ge j k with h2|h2
        · exact hs j hj h2
        · obtain rfl:j=k:=by omega
          exact HK⟩
       case measure=>simp[intOf];omega
  · have HI := hide (show m.iT.all (BM m)=true from F9 fun q hq=>hs q hq (by omega))
    go_wp2_with fail
    clear a0 a1 a2 a3 a4 a5 a6 a7 a8 a9 a10 hs
    go_loopw [4] (fun i wr=>∃ k:Nat,k≤m.uT.length∧i=.int .i64 k∧Hid (MW w w.heap.size wr h m)∧Hid (∀ j (hj:j<m.uT.length),j<k→Aj m m.uT[j]=true)) (fun i _=>m.uT.length - (intOf i).toNat)
    case atStart=>exact⟨0,Nat.zero_le _,rfl,hW,fun j hj h0=>absurd h0 (by omega)⟩
    case round =>
     clear hW hlt0 hlt hk
     obtain⟨k,hk,rfl,hW,hs⟩:=hrel
     obtain⟨a0,a1,a2,a3,a4,a5,a6,a7,a8,a9,a10⟩:=MB.cells hW.out.blk
     have hlt0:=hW.out.lt
     by_cases hlt:k<m.uT.length
     · obtain ⟨b,off,A2,c2,hA,hb,x0,x1,x2,x3,x4,x5,x6,g2,g3,gI⟩:=(hW.out.md D.out).dU.rule hlt
       have hd2:MD wr wr.heap.size { h with u:=some ⟨b,off,none⟩ } m:=by
        have hd:=hW.out.md D.out
        have e:({ h with u:=some ⟨b,off,none⟩ }:MH)=h:=by rw[← hA]
        rw[e];exact hd
       have hb1:=hide fun(n:Nat)=>Pz { h with u:=some ⟨b,off,none⟩ } m m.uT[k] A2 c2 (wr.drewN n) (hd2.grow (AY (Below.refl _ _) n)) (by omega) (gI.grow (AY (Below.refl _ _) n))
       have HC:=hide (show Calls Tryz.prog 20 #[.agg #[.slice h.s m.sT.length h.sc,.slice h.f m.fT.length h.fc,.slice h.r m.rT.length h.rc,.slice h.m m.mT.length h.mc,.slice h.l m.lT.length h.lc,.slice h.i m.iT.length h.ic,.int .i64 m.dT,.int .i64 m.oT,.int .i64 m.vT,.int .i64 m.aT,.slice (some ⟨b,off,none⟩) m.uT.length h.uc],.agg #[.int .i64 m.uT[k].kind,.int .i64 m.uT[k].item,.int .i64 m.uT[k].other,.int .i64 m.uT[k].n,.int .i64 m.uT[k].by_,.bool m.uT[k].always,.slice A2 m.uT[k].machines.length c2]] wr.drew (fun e w'=>e=.returned (.bool (Aj m m.uT[k]))∧Below wr.drew.heap.size wr.drew w') from hb1.out 1)
       rw[hA] at a10
       have hltI:(k:Int)<(m.uT.length:Int):=by omega
       clear hA hb1 gI hd2
       cases e5:Aj m m.uT[k]
       · have HV:=hide (QH hlt e5)
         rw[e5] at HC
         go_wp2_with fail
         go_region_with ((with_reducible refine HC.out.mono ?_);rintro e w3 ⟨rfl,hb3⟩)
         all_goals
          go_wp2_with fail
          go_ret
          exact⟨AJ (by rw[HV.out];rfl),(hW.out.drew.grow hb3).b⟩
       · rw [e5] at HC
         have HK:=hide e5
         clear e5
         go_wp2_with fail
         go_region_with ((with_reducible refine HC.out.mono ?_);rintro e w3 ⟨rfl,hb3⟩)
         all_goals
          go_wp2_with fail
          go_roundw
          case rel=>exact⟨k+1,by omega,by go_num,hide (hW.out.drew.grow hb3),fun j hj h1=>by
           rcases Nat.lt_or_ge j k with h2|h2
           · exact hs j hj h2
           · obtain rfl:j=k:=by omega
             exact HK⟩
          case measure=>simp[intOf];omega
     · have HZ:=hide (HR.out HI.out (F9 fun q hq=>hs q hq (by omega)))
       have HB:=hide hW.out.b
       have HQ:=hide (show FZ m=(AP m.dT m.sT.length && Au m.oT 1 16 && Au m.vT 0 (m.oT - 1) && Au m.aT 0 7) from rfl)
       cases f1:AP m.dT m.sT.length
       · go_wp2_with (go_at_call 21;refine(Aa _ _ _).mono ?_;rintro e w2 ⟨rfl,rfl⟩)
         go_ret
         exact⟨AJ (by rw[HZ.out,HQ.out,f1];rfl),HB.out⟩
       cases f2:Au m.oT 1 16
       · go_wp2_with (first
           | (go_at_call 21;refine(Aa _ _ _).mono ?_;rintro e w2 ⟨rfl,rfl⟩)
           | (go_at_call 22;refine(Bw _ _ _ _).mono ?_;rintro e w2 ⟨rfl,rfl⟩))
         go_ret
         exact⟨AJ (by rw[HZ.out,HQ.out,f1,f2];rfl),HB.out⟩
       have fb:1≤m.oT∧m.oT≤16:=by simpa[Au] using f2
       obtain⟨fb1,fb2⟩:=fb
       cases f3:Au m.vT 0 (m.oT - 1) <;> cases f4:Au m.aT 0 7
       all_goals
        go_wp2_with (first
         | (go_at_call 21;refine(Aa _ _ _).mono ?_;rintro e w2 ⟨rfl,rfl⟩)
         | (go_at_call 22;refine(Bw _ _ _ _).mono ?_;rintro e w2 ⟨rfl,rfl⟩))
        go_ret
        exact⟨AJ (by rw[HZ.out,HQ.out,f1,f2,f3,f4];rfl),HB.out⟩
/-! A map with string keys that is filled one by one -/
theorem Ie {P:Program} {K:TypeId} (hk:P.underlying K=some .string) (e:Bool) (n:Nat) (k:ByteArray) (w:World) :
    (Instr.checkKey e (n+1) K (.string k)).run P w=.ok () w:=by
 unfold Instr.checkKey
 simp[Sem.run_bind,run_underlying hk]
theorem Gm {P:Program} {K:TypeId} (hk:P.underlying K=some .string) (k:ByteArray) (es:List MapEntry) {r:Option (Nat×Value)} (hf:Instr.findNow .string (.string k) es 0=some r) (w:World) :
    (Instr.findKey K (.string k) es).run P w=.ok r w:=by
 unfold Instr.findKey
 simp[Sem.run_bind,run_underlying hk,hf]
theorem QX (a b:ByteArray):(a == b)=decide (a=b):=by
 obtain⟨x⟩:=a
 obtain⟨y⟩:=b
 show(x == y)=_
 rw[Bool.eq_iff_iff]
 simp
def setW(w:World)(r:Nat)(o:Obj):World:={ w with heap:=w.heap.setIfInBounds r o }
theorem P8 {P:Program} {w:World} {r:Nat} {es:Array MapEntry} {c:Nat} (h:w.heap[r]? = some (.map es c)) (o:Obj):(setObj r o).run P w=.ok () (setW w r o):=by
 simp only[setObj,Sem.run,h];rfl
theorem Tf{w:World}{r:Nat}(h:r<w.heap.size)(o:Obj):(setW w r o).heap[r]? = some o:=by simp[setW,h]
theorem SN(w:World)(r B:Nat)(o:Obj):But r B w (setW w r o):=⟨rfl,rfl,rfl,by simp[setW],fun k _ hn=>by simp only[setW];rw[Array.getElem?_setIfInBounds];simp[Ne.symm hn]⟩
theorem Ef {P:Program} {ops:Array Oper} {rest:List Oper} {o:Oper} {a:Act} {Q:Exit→Act→World→Prop} {w:World} (hgd:o.guard=none) (hd:o.dst=none) (t:TypeId) (m k v:Operand)
    (ho:o.op=.mapUpdate t m k v) {K E:TypeId} (ht:P.underlying t=some (.map K E)) (hk:P.underlying K=some .string) {es:Array MapEntry} {c:Nat} {kk:ByteArray} {vv:Value} {r:Nat}
    (hr:w.heap[r]? = some (.map es c)) (hm:a.eval m=.map (some r)) (hkv:a.eval k=.string kk) (hv:a.eval v=vv) (hf:Instr.findNow .string (.string kk) es.toList 0=some none)
    (h:∀ w1:World,w1.heap[r]? = some (.map (es.push { key:=.string kk,val:=vv,born:=c }) (c+1))→But r w.heap.size w w1→wpList P ops Q rest a w1):wpList P ops Q (o :: rest) a w :=
 wpList_plain hgd fun K' hK=>by
  have hlt:r<w.heap.size:=(Array.getElem?_eq_some_iff.1 hr).1
  unfold Oper.wp execOp
  simp only[ho,hm,hkv,hv,Sem.run_bind,Instr.mapUpdate,run_underlying ht,EI hr,Ie hk,Gm hk kk es.toList hf,P8 hr,Result.andThen_ok,Sem.run_pure,Oper.upon_skip,hd]
  exact hK _ _ (h _ (Tf hlt _) (SN w r _ _))
def EO(l:List ByteArray):Array MapEntry:=(l.zipIdx.map fun x=>({ key:=.string x.1,val:=.bool true,born:=x.2 }:MapEntry)).toArray
theorem LM (l:List ByteArray) (s:ByteArray):(EO l).push { key:=.string s,val:=.bool true,born:=l.length } = EO (l ++ [s]):=by
 simp[EO,List.zipIdx_append]
theorem PM:∀ (l:List ByteArray) (s:ByteArray) (i n:Nat),∃ o,Instr.findNow .string (.string s) ((l.zipIdx n).map fun x=>({ key:=.string x.1,val:=.bool true,born:=x.2 }:MapEntry)) i=some o∧((Be l s=true→∃ j,o=some (j,.bool true))∧(Be l s=false→o=none))
 | [],s,i,n=>⟨none,rfl,by simp[Be],fun _=>rfl⟩
 | x :: l,s,i,n=>by
   by_cases h:s=x
   · refine⟨some (i,.bool true),?_,fun _=>⟨i,rfl⟩,fun hf=>by simp[Be,h] at hf⟩
     simp only[List.zipIdx_cons,List.map_cons,Instr.findNow,Instr.sameNow,QX,h,decide_true]
   · obtain⟨o,h1,h2,h3⟩:=PM l s (i+1) (n+1)
     have hx:Be (x :: l) s=Be l s:=by simp[Be,Ne.symm h]
     refine⟨o,?_,by rw[hx];exact h2,by rw[hx];exact h3⟩
     simp only[List.zipIdx_cons,List.map_cons,Instr.findNow,Instr.sameNow,QX,decide_eq_false h]
     exact h1
theorem I5 {w:World} {r:Nat} {l:List ByteArray} {c:Nat} (h:w.heap[r]? = some (.map (EO l) c)) (s:ByteArray) :
    (Instr.lookup 96 (.map (some r)) (.string s) false).run Tryz.prog w=.ok (.bool (Be l s)) w:=by
 obtain⟨o,h1,h2,h3⟩:=PM l s 0 0
 have hz:(zeroValue 4).run Tryz.prog w=.ok (.bool false) w:=by kernel_rfl
 have h1':Instr.findNow .string (.string s) (EO l).toList 0=some o:=h1
 unfold Instr.lookup
 simp[Sem.run_bind,run_underlying Tryz.underlying96,EI h,Ie Tryz.underlying9,Gm Tryz.underlying9 s (EO l).toList h1']
 cases hs:Be l s
 · rw[h3 hs]
   simp[hz]
 · obtain⟨j,rfl⟩:=h2 hs
   simp
theorem KJ (h : MH) (m:AC) (w:World) (d:MD w w.heap.size h m) (q1:m.sT.length≤100) (q2:m.fT.length≤100) (q3:m.rT.length≤100) (q4:m.mT.length≤100) (q5:m.iT.length≤100) :
    Calls Tryz.prog 53 #[.agg #[.slice h.s m.sT.length h.sc,.slice h.f m.fT.length h.fc,.slice h.r m.rT.length h.rc,.slice h.m m.mT.length h.mc,.slice h.l m.lT.length h.lc,.slice h.i m.iT.length h.ic,.int .i64 m.dT,.int .i64 m.oT,.int .i64 m.vT,.int .i64 m.aT,.slice h.u m.uT.length h.uc]] w fun e w'=>∃ A c,e=.returned (.slice A (AV m).length c)∧(AV m).length≤c∧Strs w' w'.heap.size A (AV m)∧Below w.heap.size w w':=by
 have hB2:=KV w #[.slice h.s m.sT.length h.sc,.slice h.f m.fT.length h.fc,.slice h.r m.rT.length h.rc,.slice h.m m.mT.length h.mc,.slice h.l m.lT.length h.lc,.slice h.i m.iT.length h.ic,.int .i64 m.dT,.int .i64 m.oT,.int .i64 m.vT,.int .i64 m.aT,.slice h.u m.uT.length h.uc] #[.slice none 0 0] 29 22
 have hC0:Fa (w.heap.size+1+1) (w.heap.size+1) ((w.alloc (.cells #[.slice h.s m.sT.length h.sc,.slice h.f m.fT.length h.fc,.slice h.r m.rT.length h.rc,.slice h.m m.mT.length h.mc,.slice h.l m.lT.length h.lc,.slice h.i m.iT.length h.ic,.int .i64 m.dT,.int .i64 m.oT,.int .i64 m.vT,.int .i64 m.aT,.slice h.u m.uT.length h.uc] 29)).alloc (.cells #[.slice none 0 0] 22)) [] :=
  ⟨_,by simpa using AB.new (w.alloc (.cells #[.slice h.s m.sT.length h.sc,.slice h.f m.fT.length h.fc,.slice h.r m.rT.length h.rc,.slice h.m m.mT.length h.mc,.slice h.l m.lT.length h.lc,.slice h.i m.iT.length h.ic,.int .i64 m.dT,.int .i64 m.oT,.int .i64 m.vT,.int .i64 m.aT,.slice h.u m.uT.length h.uc] 29)) 22 #[.slice none 0 0],BI.nil_ _ _⟩
 have HE:=hide (PI h m (w.heap.size+1) w.heap.size ((w.alloc (.cells #[.slice h.s m.sT.length h.sc,.slice h.f m.fT.length h.fc,.slice h.r m.rT.length h.rc,.slice h.m m.mT.length h.mc,.slice h.l m.lT.length h.lc,.slice h.i m.iT.length h.ic,.int .i64 m.dT,.int .i64 m.oT,.int .i64 m.vT,.int .i64 m.aT,.slice h.u m.uT.length h.uc] 29)).alloc (.cells #[.slice none 0 0] 22)) (d.below hB2) (by omega) (by simpa using hC0) (by simp) q1 q2 q3 q4 q5)
 have HB:=hide hB2
 clear hB2 hC0 d
 go_enter Tryz.func53,Tryz.ntmps53
 go_wp2_with (go_at_call 103;refine HE.out.mono ?_;rintro e w1 ⟨rfl,hC,hbut⟩
              obtain⟨v,hv1,hv2⟩:=hC.ex
              have v0:=hv1.cell 0
              have vlt:=hv1.lt
              simp at v0
              obtain⟨A,c,rfl,hc,hS⟩:=hv2.form3)
 go_ret
 exact⟨A,c,rfl,hc,hS,HB.out.trans (hbut.below2 (by simp;omega) (by omega))⟩
theorem Og {m:AC} (h:Ab m=true):Bd m=true∧¬ 8<m.iT.length∧¬ 40<m.uT.length∧EE m=true∧m.iT.all (BM m)=true∧m.uT.all (Aj m)=true∧AP m.dT m.sT.length=true∧Au m.oT 1 16=true∧Au m.vT 0 (m.oT - 1)=true∧Au m.aT 0 7=true:=by
 simp only[Ab,FZ,Bool.and_eq_true,decide_eq_true_eq] at h
 obtain⟨⟨⟨⟨⟨⟨h1,h2⟩,h3⟩,h4⟩,h5⟩,h6⟩,⟨⟨⟨h7,h8⟩,h9⟩,h10⟩⟩:=h
 exact⟨h1,by omega,by omega,h4,h5,h6,h7,h8,h9,h10⟩
theorem M0 (h:MH) (m:AC) (bm:Nat) (W:World) (x:Bc) (A:Option Addr) (c:Nat) (hM:AB W bm 29 #[.slice h.s m.sT.length h.sc,.slice h.f m.fT.length h.fc,.slice h.r m.rT.length h.rc,.slice h.m m.mT.length h.mc,.slice h.l m.lT.length h.lc,.slice h.i m.iT.length h.ic,.int .i64 m.dT,.int .i64 m.oT,.int .i64 m.vT,.int .i64 m.aT,.slice h.u m.uT.length h.uc]) (l0:m.mT.length≤9223372036854775807) (hl:x.on.length≤c) (hc:c≤9223372036854775807) (hI:Ints W W.heap.size A x.on) :
    Calls Tryz.prog 56 #[.agg #[.string x.name,.int .i64 x.kind,.int .i64 x.count,.int .i64 x.load,.int .i64 x.size,.int .i64 x.share,.slice A x.on.length c],.pointer (some ⟨bm,0,none⟩)] W fun e w'=>e=.returned (.bool (!BM m x))∧Below W.heap.size W w':=by
 obtain⟨c0,c1,c2,c3,c4,c5,c6,c7,c8,c9,c10⟩:=MB.cells hM
 have hlt:=hM.lt
 have hB:=(Below.refl W.heap.size W).alloc (Nat.le_refl _) (.cells #[.string x.name,.int .i64 x.kind,.int .i64 x.count,.int .i64 x.load,.int .i64 x.size,.int .i64 x.share,.slice A x.on.length c] 49)
 have HC:=hide (N7 h m x A c _ (by omega) l0 (hI.grow hB))
 have HB:=hide hB
 clear hB hM
 go_enter Tryz.func56,Tryz.ntmps56
 go_wp2_with (go_at_call 57;refine HC.out.mono ?_;rintro e w1 ⟨rfl,hb1⟩)
 go_ret
 exact⟨rfl,HB.out.trans (hb1.mono HB.out.size)⟩
theorem NH (h:MH) (m:AC) (bm:Nat) (W:World) (x:AR) (A:Option Addr) (c:Nat) (hM:AB W bm 29 #[.slice h.s m.sT.length h.sc,.slice h.f m.fT.length h.fc,.slice h.r m.rT.length h.rc,.slice h.m m.mT.length h.mc,.slice h.l m.lT.length h.lc,.slice h.i m.iT.length h.ic,.int .i64 m.dT,.int .i64 m.oT,.int .i64 m.vT,.int .i64 m.aT,.slice h.u m.uT.length h.uc]) (d:MD W W.heap.size h m) (hl:x.machines.length≤c) (hc:c≤9223372036854775807) (hI:Ints W W.heap.size A x.machines) :
    Calls Tryz.prog 59 #[.agg #[.int .i64 x.kind,.int .i64 x.item,.int .i64 x.other,.int .i64 x.n,.int .i64 x.by_,.bool x.always,.slice A x.machines.length c],.pointer (some ⟨bm,0,none⟩)] W fun e w'=>e=.returned (.bool (!Aj m x))∧Below W.heap.size W w':=by
 obtain⟨c0,c1,c2,c3,c4,c5,c6,c7,c8,c9,c10⟩:=MB.cells hM
 have hlt:=hM.lt
 have hB:=(Below.refl W.heap.size W).alloc (Nat.le_refl _) (.cells #[.int .i64 x.kind,.int .i64 x.item,.int .i64 x.other,.int .i64 x.n,.int .i64 x.by_,.bool x.always,.slice A x.machines.length c] 51)
 have HC:=hide (RD h m x A c _ (d.grow hB) (by omega) (hI.grow hB))
 have HB:=hide hB
 clear hB hM d hI
 go_enter Tryz.func59,Tryz.ntmps59
 go_wp2_with (go_at_call 60;refine HC.out.mono ?_;rintro e w1 ⟨rfl,hb1⟩)
 go_ret
 exact⟨rfl,HB.out.trans (hb1.mono HB.out.size)⟩
theorem GA{α:Type}(l:List α)(p:α→Bool):l.any (fun x=>!p x) = !l.all p:=List.not_all_eq_any_not.symm
theorem MW.but {w wr w2:World} {bm g:Nat} {h:MH} {m:AC} (d:MW w bm wr h m) (hb:But g wr.heap.size wr w2) (hg:w.heap.size≤g) (hne:bm≠g):MW w bm w2 h m :=
 ⟨d.b.trans (hb.below2 d.b.size hg),hb.blk d.blk d.lt hne⟩
theorem Ic {w w1:World} {r c c':Nat} {es es':Array MapEntry} (h:w.heap[r]? = some (.map es c)) (h1:w1.heap[r]? = some (.map es' c')) (hb:But r w.heap.size w w1) (p:Addr) (hp:p.block<w.heap.size):w1.cell? p=w.cell? p:=by
 by_cases e:p.block=r
 · simp[World.cell?,e,h,h1]
 · exact World.cell?_of_block (hb.block _ hp e)
theorem KE {l:List ByteArray} {s:ByteArray} (h:Be l s=false):Instr.findNow .string (.string s) (EO l).toList 0=some none:=by
 obtain⟨o,h1,_,h3⟩:=PM l s 0 0
 rw[h3 h] at h1
 exact h1
theorem D7 (h:MH) (m:AC) (w:World) (d:MD w w.heap.size h m) (k1:m.rT.length≤h.rc) (k2:m.mT.length≤h.mc) (k3:m.lT.length≤h.lc) (ha:Asc w) (hv:Ab m=true) :
    Calls Tryz.prog 23 #[.agg #[.slice h.s m.sT.length h.sc,.slice h.f m.fT.length h.fc,.slice h.r m.rT.length h.rc,.slice h.m m.mT.length h.mc,.slice h.l m.lT.length h.lc,.slice h.i m.iT.length h.ic,.int .i64 m.dT,.int .i64 m.oT,.int .i64 m.vT,.int .i64 m.aT,.slice h.u m.uT.length h.uc]] w fun e w'=>e=.returned (.bool true)∧Below w.heap.size w w':=by
 obtain⟨v1,v2,v3,v4,v5,v6,v7,v8,v9,v10⟩:=Og hv
 have hl0:=d.sl
 have hl5:=d.il
 have hl6:=d.ul
 have hl3:=d.ml
 have hfit:=I6 d
 have HW0:=hide (MW.start w h m)
 have D:=hide d
 have hmm:=@run_makeMap Tryz.prog
 have hS:=Bn h m (w.alloc (.cells #[.slice h.s m.sT.length h.sc,.slice h.f m.fT.length h.fc,.slice h.r m.rT.length h.rc,.slice h.m m.mT.length h.mc,.slice h.l m.lT.length h.lc,.slice h.i m.iT.length h.ic,.int .i64 m.dT,.int .i64 m.oT,.int .i64 m.vT,.int .i64 m.aT,.slice h.u m.uT.length h.uc] 29)) ((MW.start w h m).md d) k1 k2 k3
 rw[v1] at hS
 have HS:=hide hS
 obtain⟨z1,z2,z3,z4⟩:=II v1
 have fb:1≤m.oT∧m.oT≤16:=by simpa[Au] using v8
 obtain⟨fb1,fb2⟩:=fb
 have HV7:=hide (show Au m.dT 1 m.sT.length=true from v7)
 have hv7:=HV7.out
 have HN:=hide fun(W:World) (hW:MW w w.heap.size W h m)=>KJ h m W (hW.md D.out) z1 z2 z3 z4 (by omega)
 have HL:=hide (show(AV m).length≤600 by rw[← F5];exact(KL z1 z2 z3 z4 (by omega) _).2.2)
 have HF:=hide hfit
 have HX:=hide (And.intro v4 (And.intro v5 v6))
 have HA:=hide ha
 clear hS hfit v1 z1 z2 z3 z4 v4 v5 v6 v7 hv d ha
 go_enter Tryz.func23,Tryz.ntmps23
 go_wp2_with (first
  | (go_at_call 51;refine HS.out.mono ?_;rintro e w1 ⟨rfl,hb1⟩;have hW1:=HW0.out.grow hb1;obtain⟨a0,a1,a2,a3,a4,a5,a6,a7,a8,a9,a10⟩:=MB.cells hW1.blk;have ha:=hW1.lt;clear hb1)
  | (go_at_call 52;refine(Aw _ _ _ _).mono ?_;rintro e w2 ⟨rfl,rfl⟩)
  | (go_at_call 53;refine(HN.out _ (hW1.grow ((Below.refl _ _).alloc (Nat.le_refl _) (.map #[] 0)))).mono ?_;rintro e w2 ⟨A,c,rfl,hc,hStr,hb2⟩
     have hW2:=(hW1.grow ((Below.refl _ _).alloc (Nat.le_refl _) (.map #[] 0))).grow hb2
     have hmp:w2.heap[w1.heap.size]? = some (.map (EO []) 0):=(hb2.block w1.heap.size (by simp)).trans (heap_alloc_new w1 _)))
 have hW1lt:w.heap.size<w1.heap.size:=hW1.lt
 have HS0:=hide (And.intro hW2 (And.intro hmp hStr))
 have H12:=hide (show w1.heap.size<w2.heap.size from by have:=hb2.size;simp at this;omega)
 clear hW1 hW2 hmp hStr hb2 a0 a1 a2 a3 a4 a5 a6 a7 a8 a9 a10 hv7 v8 v9 v10 HS HW0 HN
 go_loopw [55] (fun i wr=>∃ k:Nat,k≤(AV m).length∧i=.int .i64 k∧w1.heap.size<wr.heap.size∧Hid (MW w w.heap.size wr h m)∧Hid (wr.heap[w1.heap.size]? = some (.map (EO ((AV m).take k)) k))∧Hid (Strs wr w2.heap.size A (AV m)∧w2.heap.size≤wr.heap.size)) (fun i _=>(AV m).length - (intOf i).toNat)
 case atStart=>exact⟨0,Nat.zero_le _,rfl,H12.out,HS0.out.1,HS0.out.2.1,⟨HS0.out.2.2,Nat.le_refl _⟩⟩
 case round =>
  clear HS0 H12
  obtain⟨k,hk,rfl,hw1,hW,hMp,hStr⟩:=hrel
  have hnl:=HL.out
  have hW0lt:=hW.out.lt
  by_cases hlt:k<(AV m).length
  · obtain ⟨b,off,hA,hb,x0⟩:=GY hStr.out.1 hlt
    subst hA
    have hbw:b<wr.heap.size:=by have:=hStr.out.2;omega
    have hok:=(KR (p:=fun s pre=>BK s && !Be pre s)).1 HX.out.1 k hlt
    simp only[Bool.and_eq_true,Bool.not_eq_true'] at hok
    obtain⟨o1,o2⟩:=hok
    have HI:=hide (FP (AV m)[k] wr (HA.out.below (Nat.le_refl _) hW.out.b) (HF.out _ (List.getElem_mem hlt)))
    rw[o1] at HI
    have HP:=hide (LM ((AV m).take k) (AV m)[k])
    have HTK:=hide (show(AV m).take k ++ [(AV m)[k]]=(AV m).take (k+1) by rw[List.take_succ_eq_append_getElem hlt])
    have HLN:=hide (show((AV m).take k).length=k by simp;omega)
    have HFN:=hide (KE o2)
    have O2:=hide o2
    clear o1 o2
    generalize hnm:(AV m)[k]=nm at *
    clear hnm
    go_wp2_with (first
     | (go_at_call 54;refine HI.out.mono ?_;rintro e w3 ⟨rfl,hb3⟩
        have hM3:w3.heap[w1.heap.size]? = some (.map (EO ((AV m).take k)) k):=(hb3.block _ hw1).trans hMp.out
        have hlk:=I5 hM3 nm
        rw[O2.out] at hlk
        have HM3:=hide hM3
        have hs3:=hb3.size
        clear hM3)
     | (refine Ef rfl rfl _ _ _ _ rfl Tryz.underlying96 Tryz.underlying9 HM3.out rfl rfl rfl HFN.out ?_;intro w4 hM4 hb4
        have HM4:=hide hM4
        have HB4:=hide hb4
        clear hM4 hb4))
    have hS4:Strs w4 w2.heap.size (some ⟨b,off,none⟩) (AV m):=(hStr.out.1.keep fun p hp=>hb3.cell (by have:=hStr.out.2;omega)).keep fun p hp=>Ic HM3.out HM4.out HB4.out p (by have:=hStr.out.2;omega)
    have hs4:=HB4.out.size
    have hM4':w4.heap[w1.heap.size]? = some (.map (EO ((AV m).take (k+1))) (k+1)):=by
     rw[← HTK.out,← HP.out,HLN.out];exact HM4.out
    go_roundw
    case rel=>exact⟨k+1,by omega,by go_num,by omega,hide ((hW.out.grow hb3).but HB4.out (by omega) (by omega)),hM4',⟨hS4,by have:=hStr.out.2;omega⟩⟩
    case measure=>simp[intOf];omega
  · have hWm:=hW.out
    have HIt:=hide (Fj 56 #[.pointer (some ⟨w.heap.size,0,none⟩)] (fun _ _=>by kernel_rfl) (fun x=>!BM m x) h.i h.ic m.iT wr hl5 (hWm.md D.out).dI (fun i hi A2 c2 W hW2 g1 g2 gI=>M0 h m w.heap.size W m.iT[i] A2 c2 (hWm.grow hW2).blk hl3 g1 g2 gI))
    have HRu:=hide fun(W0:World) (hW0:MW w w.heap.size W0 h m)=>Fp 59 #[.pointer (some ⟨w.heap.size,0,none⟩)] (fun _ _=>by kernel_rfl) (fun x=>!Aj m x) h.u h.uc m.uT W0 hl6 (hW0.md D.out).dU (fun i hi A2 c2 W hW2 g1 g2 gI=>NH h m w.heap.size W m.uT[i] A2 c2 (hW0.grow hW2).blk ((hW0.grow hW2).md D.out) g1 g2 gI)
    have e1:m.iT.any (fun x=>!BM m x)=false:=by rw[GA,HX.out.2.1];rfl
    have e2:m.uT.any (fun x=>!Aj m x)=false:=by rw[GA,HX.out.2.2];rfl
    rw[e1] at HIt
    rw[e2] at HRu
    obtain⟨a0,a1,a2,a3,a4,a5,a6,a7,a8,a9,a10⟩:=MB.cells hWm.blk
    clear e1 e2
    go_wp2_with (first
     | (go_at_call 55;refine HIt.out.mono ?_;rintro e w3 ⟨rfl,hb3⟩;have hW3:=hWm.grow hb3;obtain⟨c0,c1,c2,c3,c4,c5,c6,c7,c8,c9,c10⟩:=MB.cells hW3.blk;have hc:=hW3.lt;clear hb3)
     | (go_at_call 58;refine(HRu.out _ hW3).mono ?_;rintro e w4 ⟨rfl,hb4⟩))
    go_ret
    exact⟨rfl,(hW3.grow hb4).b⟩
end Go.Proofs.YtfemlajeomohhaaGreatDoor
