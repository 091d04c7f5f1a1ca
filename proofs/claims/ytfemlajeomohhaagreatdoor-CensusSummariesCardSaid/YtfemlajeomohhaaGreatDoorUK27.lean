/- A part of the claim: see its last text. -/
import Derived.Test.YtfemlajeomohhaaGreatDoorUK06
import Derived.Laws.EntriesVeiled
import Derived.Test.YtfemlajeomohhaaGreatDoorUK23

set_option maxRecDepth 100000
set_option maxHeartbeats 16000000
namespace Go.Proofs.YtfemlajeomohhaaGreatDoor
open Go Go.RowKit Go.Proofs
def Cy(m:AC)(bm:Nat)(j:Nat):List Value:=[.int .i64 ((CJ m j).length:Int),.func (.func (Ho j)) #[] #[.pointer (some ⟨bm,0,none⟩)],.func (.func (Ja j)) #[] (LW j bm)]
theorem MD.but{w w':World}{B0 g B:Nat}{h:MH}{m:AC}(d:MD w B0 h m)(hb:But g B w w')(h1:B0≤B)(h2:B0≤g):MD w' B0 h m:=d.below (hb.below2 h1 h2)
theorem AB.eqCells{w:World}{g:Nat}{t:TypeId}{cs cs':Array Value}(h:AB w g t cs)(e:cs=cs'):AB w g t cs':=e ▸ h
structure Ei (w:World) (bo B0:Nat) (h:MH) (m:AC) (L:List ByteArray) (wr:World):Prop where
 coll:Fa w.heap.size bo wr L
 but:But bo w.heap.size w wr
 bm:AB wr w.heap.size 29 #[.slice h.s m.sT.length h.sc,.slice h.f m.fT.length h.fc,.slice h.r m.rT.length h.rc,.slice h.m m.mT.length h.mc,.slice h.l m.lT.length h.lc,.slice h.i m.iT.length h.ic,.int .i64 m.dT,.int .i64 m.oT,.int .i64 m.vT,.int .i64 m.aT,.slice h.u m.uT.length h.uc]
 bl:AB wr (w.heap.size+1) 175 ((Cy m w.heap.size 0++Cy m w.heap.size 1++Cy m w.heap.size 2++Cy m w.heap.size 3++Cy m w.heap.size 4).toArray)
 d:MD wr B0 h m
theorem Ei.grow {w wr w2:World} {bo B0:Nat} {h:MH} {m:AC} {L:List ByteArray} (s:Ei w bo B0 h m L wr) (hb:Below wr.heap.size wr w2) (hB:B0≤w.heap.size):Ei w bo B0 h m L w2 :=
 ⟨s.coll.keep hb,s.but.trans (But.ofBelow (hb.mono s.but.size)),s.bm.below hb s.bm.lt,s.bl.below hb s.bl.lt,s.d.below (hb.mono (Nat.le_trans hB s.but.size))⟩
theorem Ei.one {w wr w2:World} {bo B0:Nat} {h:MH} {m:AC} {L L2:List ByteArray} {e:Ending} (s:Ei w bo B0 h m L wr) (hc:Oz w.heap.size bo L2 wr e w2) (hB:B0≤w.heap.size) (h2:B0≤bo) (h3:bo<w.heap.size):Ei w bo B0 h m L2 w2 :=
 ⟨hc.2.1,s.but.trans hc.2.2.1,hc.2.2.2 _ _ _ (by omega) (by decide) s.bm,hc.2.2.2 _ _ _ (by omega) (by decide) s.bl,s.d.but hc.2.2.1 hB h2⟩
theorem Ei.list {w wr:World} {bo B0:Nat} {h:MH} {m:AC} {L:List ByteArray} (s:Ei w bo B0 h m L wr) {j:Nat} (hj:j<5) :
    wr.cell? ⟨w.heap.size+1,j*3,none⟩=some (.int .i64 ((CJ m j).length:Int))∧wr.cell? ⟨w.heap.size+1,j*3+1,none⟩=some (.func (.func (Ho j)) #[] #[.pointer (some ⟨w.heap.size,0,none⟩)])∧wr.cell? ⟨w.heap.size+1,j*3+2,none⟩=some (.func (.func (Ja j)) #[] (LW j w.heap.size)):=by
 have hc:=fun i=>s.bl.cell i
 match j,hj with
 | 0,_=>exact⟨hc 0,hc 1,hc 2⟩
 | 1,_=>exact⟨hc 3,hc 4,hc 5⟩
 | 2,_=>exact⟨hc 6,hc 7,hc 8⟩
 | 3,_=>exact⟨hc 9,hc 10,hc 11⟩
 | 4,_=>exact⟨hc 12,hc 13,hc 14⟩
theorem TY {m:AC} (q1:m.sT.length≤100) (q2:m.fT.length≤100) (q3:m.rT.length≤100) (q4:m.mT.length≤100) (q5:m.iT.length≤100) (j:Nat):(CJ m j).length≤100:=by
 match j with
 | 0=>exact q1
 | 1=>exact q2
 | 2=>simpa[CJ] using q3
 | 3=>simpa[CJ] using q4
 | n+4=>simpa[CJ] using q5
theorem NE {m:AC} (h:∀ j,(CJ m j).length≤100):∀ j,(EG m j).length≤100*j
 | 0=>by simp[EG]
 | j+1=>by
   have:=NE h j
   have:=h j
   rw[← La,List.length_append];omega
theorem TT(m:AC)(w:World):(#[.int .i64 m.sT.length,.func (.func 139) #[] #[.pointer (some ⟨w.heap.size,0,none⟩)],.func (.func 140) #[] #[],.int .i64 m.fT.length,.func (.func 141) #[] #[.pointer (some ⟨w.heap.size,0,none⟩)],.func (.func 142) #[] #[],.int .i64 m.rT.length,.func (.func 143) #[] #[.pointer (some ⟨w.heap.size,0,none⟩)],.func (.func 144) #[] #[],.int .i64 m.mT.length,.func (.func 145) #[] #[.pointer (some ⟨w.heap.size,0,none⟩)],.func (.func 146) #[] #[],.int .i64 m.iT.length,.func (.func 147) #[] #[.pointer (some ⟨w.heap.size,0,none⟩)],.func (.func 148) #[] #[.pointer (some ⟨w.heap.size,0,none⟩)]]:Array Value)=((Cy m w.heap.size 0++Cy m w.heap.size 1++Cy m w.heap.size 2++Cy m w.heap.size 3++Cy m w.heap.size 4).toArray):=by simp[Cy,CJ,Ho,Ja,LW]
theorem KV(w:World)(c1 c2:Array Value)(t1 t2:TypeId):Below w.heap.size w ((w.alloc (.cells c1 t1)).alloc (.cells c2 t2)):=((Below.refl _ _).alloc (Nat.le_refl _) _).alloc (by simp) _
theorem PI (h:MH) (m:AC) (bo B0:Nat) (w:World) (d:MD w B0 h m) (h0:B0≤bo) (hC:Fa w.heap.size bo w []) (hbo:bo<w.heap.size)
    (q1:m.sT.length≤100) (q2:m.fT.length≤100) (q3:m.rT.length≤100) (q4:m.mT.length≤100) (q5:m.iT.length≤100) :
    Calls Tryz.prog 103 #[.agg #[.slice h.s m.sT.length h.sc,.slice h.f m.fT.length h.fc,.slice h.r m.rT.length h.rc,.slice h.m m.mT.length h.mc,.slice h.l m.lT.length h.lc,.slice h.i m.iT.length h.ic,.int .i64 m.dT,.int .i64 m.oT,.int .i64 m.vT,.int .i64 m.aT,.slice h.u m.uT.length h.uc],.func (.func 104) #[] #[.pointer (some ⟨bo,0,none⟩)]] w
     fun e w'=>e=.returned (.tuple #[])∧Fa w.heap.size bo w' (AV m)∧But bo w.heap.size w w':=by
 have hln:=TY q1 q2 q3 q4 q5
 have hlp:=NE hln
 have HLN:=hide hln
 have HLP:=hide hlp
 have hB2:=KV w #[.slice h.s m.sT.length h.sc,.slice h.f m.fT.length h.fc,.slice h.r m.rT.length h.rc,.slice h.m m.mT.length h.mc,.slice h.l m.lT.length h.lc,.slice h.i m.iT.length h.ic,.int .i64 m.dT,.int .i64 m.oT,.int .i64 m.vT,.int .i64 m.aT,.slice h.u m.uT.length h.uc] #[.int .i64 m.sT.length,.func (.func 139) #[] #[.pointer (some ⟨w.heap.size,0,none⟩)],.func (.func 140) #[] #[],.int .i64 m.fT.length,.func (.func 141) #[] #[.pointer (some ⟨w.heap.size,0,none⟩)],.func (.func 142) #[] #[],.int .i64 m.rT.length,.func (.func 143) #[] #[.pointer (some ⟨w.heap.size,0,none⟩)],.func (.func 144) #[] #[],.int .i64 m.mT.length,.func (.func 145) #[] #[.pointer (some ⟨w.heap.size,0,none⟩)],.func (.func 146) #[] #[],.int .i64 m.iT.length,.func (.func 147) #[] #[.pointer (some ⟨w.heap.size,0,none⟩)],.func (.func 148) #[] #[.pointer (some ⟨w.heap.size,0,none⟩)]] 29 175
 have hS0:Ei w bo B0 h m (EG m 0) ((w.alloc (.cells #[.slice h.s m.sT.length h.sc,.slice h.f m.fT.length h.fc,.slice h.r m.rT.length h.rc,.slice h.m m.mT.length h.mc,.slice h.l m.lT.length h.lc,.slice h.i m.iT.length h.ic,.int .i64 m.dT,.int .i64 m.oT,.int .i64 m.vT,.int .i64 m.aT,.slice h.u m.uT.length h.uc] 29)).alloc (.cells #[.int .i64 m.sT.length,.func (.func 139) #[] #[.pointer (some ⟨w.heap.size,0,none⟩)],.func (.func 140) #[] #[],.int .i64 m.fT.length,.func (.func 141) #[] #[.pointer (some ⟨w.heap.size,0,none⟩)],.func (.func 142) #[] #[],.int .i64 m.rT.length,.func (.func 143) #[] #[.pointer (some ⟨w.heap.size,0,none⟩)],.func (.func 144) #[] #[],.int .i64 m.mT.length,.func (.func 145) #[] #[.pointer (some ⟨w.heap.size,0,none⟩)],.func (.func 146) #[] #[],.int .i64 m.iT.length,.func (.func 147) #[] #[.pointer (some ⟨w.heap.size,0,none⟩)],.func (.func 148) #[] #[.pointer (some ⟨w.heap.size,0,none⟩)]] 175)) :=
  ⟨hC.keep hB2,But.ofBelow hB2,(AB.new _ _ _).alloc _,AB.eqCells (by simpa using AB.new (w.alloc (.cells #[.slice h.s m.sT.length h.sc,.slice h.f m.fT.length h.fc,.slice h.r m.rT.length h.rc,.slice h.m m.mT.length h.mc,.slice h.l m.lT.length h.lc,.slice h.i m.iT.length h.ic,.int .i64 m.dT,.int .i64 m.oT,.int .i64 m.vT,.int .i64 m.aT,.slice h.u m.uT.length h.uc] 29)) _ _) (TT m w),d.below (hB2.mono (by omega))⟩
 have HS0:=hide hS0
 have eN:=fun j (hj:j<5)=>Rj j hj
 have eK:=fun j (hj:j<5)=>Ri j hj
 have EN:=hide eN
 have EK:=hide eK
 clear hln hlp hB2 hS0 eN eK hC d q1 q2 q3 q4 q5
 go_enter Tryz.func103,Tryz.ntmps103
 go_wp2_with fail
 go_loopw [37] (fun i wr=>∃ j:Nat,j≤5∧i=.int .i64 j∧Hid (Ei w bo B0 h m (EG m j) wr)) (fun i _=>5 - (intOf i).toNat)
 case atStart=>exact⟨0,by omega,rfl,HS0⟩
 case round =>
  clear HS0
  obtain⟨j,hj,rfl,hs⟩:=hrel
  obtain⟨wo,rfl⟩:∃ wo:World,wo=wr:=⟨_,rfl⟩
  by_cases hlt:j<5
  · obtain ⟨x0,x1,x2⟩:=hs.out.list hlt
    have hltI:(j:Int)<5:=by omega
    have hbl:=hs.out.bl.lt
    go_wp2_with fail
    have HS1:=hide (hs.out.grow ((Below.refl _ _).alloc (Nat.le_refl _) (.cells #[.int .i64 ((CJ m j).length:Int),.func (.func (Ho j)) #[] #[.pointer (some ⟨w.heap.size,0,none⟩)],.func (.func (Ja j)) #[] (LW j w.heap.size)] 175)) (by omega))
    have HT1:=hide (AB.new wo 175 #[.int .i64 ((CJ m j).length:Int),.func (.func (Ho j)) #[] #[.pointer (some ⟨w.heap.size,0,none⟩)],.func (.func (Ja j)) #[] (LW j w.heap.size)])
    have hwo:=hs.out.but.size
    clear x0 x1 x2
    go_loopw [43] (fun i wr=>∃ k:Nat,k≤(CJ m j).length∧i=.int .i64 k∧Hid (Ei w bo B0 h m (EG m j++(CJ m j).take k) wr)∧Hid (AB wr wo.heap.size 175 #[.int .i64 ((CJ m j).length:Int),.func (.func (Ho j)) #[] #[.pointer (some ⟨w.heap.size,0,none⟩)],.func (.func (Ja j)) #[] (LW j w.heap.size)])) (fun i _=>(CJ m j).length - (intOf i).toNat)
    case atStart=>exact⟨0,by omega,rfl,by rw[List.take_zero,List.append_nil];exact HS1,HT1⟩
    case round =>
     clear HS1 HT1
     obtain⟨k,hk,rfl,hs2,hT⟩:=hrel
     have hn:=HLN.out j
     by_cases hkl:k<(CJ m j).length
     · have y1:=hT.out.cell 1
       have y2:=hT.out.cell 2
       have ylt:=hT.out.lt
       simp at y1 y2
       have hsd:=hs2.out.grow (AY (Below.refl _ wr) 1) (by omega)
       have HD:=hide hsd
       have HN:=hide (show Calls Tryz.prog (Ho j) #[.int .i64 k,.pointer (some ⟨w.heap.size,0,none⟩)] wr.drew (fun e w'=>e=.returned (.string (CJ m j)[k])∧wr.drew=w') from Rz h m w.heap.size B0 k j hlt (wr.drewN 1) hsd.bm hsd.d hkl)
       have HK:=hide (show Calls Tryz.prog (Ja j) (#[.int .i64 k]++LW j w.heap.size) wr.drew (Gb wr.drew) from Rx h m w.heap.size B0 k j hlt (wr.drewN 1) hsd.bm hsd.d hkl)
       have hlen:(EG m j++(CJ m j).take k).length≤1000:=by
        have:=HLP.out j
        rw[List.length_append,List.length_take];omega
       have HO:=hide (show ∀ n,Calls Tryz.prog 104 #[.string (CJ m j)[k],.int .i64 n,.int .i64 ((k:Int)+1),.pointer (some ⟨bo,0,none⟩)] wr.drew (Oz w.heap.size bo (EG m j++(CJ m j).take k ++ [(CJ m j)[k]]) wr.drew) from fun n=>Q5 w.heap.size bo (CJ m j)[k] n ((k:Int)+1) (EG m j++(CJ m j).take k) (wr.drewN 1) hsd.coll hbo hlen hsd.but.size)
       have HE:=hide (show EG m j++(CJ m j).take k ++ [(CJ m j)[k]]=EG m j++(CJ m j).take (k+1) by rw[List.take_succ_eq_append_getElem hkl,List.append_assoc])
       have eN:=EN.out j hlt
       have eK:=EK.out j hlt
       have hw1:IntKind.i64.wrap ((k:Int)+1)=(k:Int)+1:=IntWalk.i64_in _ (by omega)
       clear hsd hlen
       go_wp2_with fail
       go_region_with ((first
        | ((with_reducible refine Calls.mono HN.out ?_);rintro e w1 ⟨rfl,rfl⟩)
        | ((with_reducible refine Calls.mono HK.out ?_);rintro e w1 ⟨n,rfl,rfl⟩)
        | ((with_reducible refine Calls.mono (HO.out n) ?_);rintro e w9 hc9;have hS9:=HD.out.one hc9 (by omega) h0 hbo;have hT9:=hc9.2.2.2 _ _ _ (by omega) (by decide) (hT.out.drewN 1);obtain⟨rfl,_⟩:=hc9)))
       all_goals
        rw[HE.out] at hS9
        go_wp2_with fail
        go_roundw
        case rel=>exact⟨k+1,by omega,by go_num,hS9,hT9⟩
        case measure=>simp[intOf];omega
     · obtain rfl:k=(CJ m j).length:=by omega
       have HE:=hide (show EG m j++(CJ m j).take (CJ m j).length=EG m (j+1) by rw[List.take_length,La])
       go_wp2_with fail
       go_roundw
       case rel=>exact⟨j+1,by omega,by go_num,by rw[← HE.out];exact hs2⟩
       case measure=>simp[intOf];omega
  · obtain rfl:j=5:=by omega
    go_wp2_with fail
    go_end0
    refine⟨rfl,?_,hs.out.but⟩
    have:=hs.out.coll
    rwa [UY] at this
theorem Strs.take_ {w:World} {B:Nat} {A:Option Addr} {l:List ByteArray} (h:Strs w B A l) {k:Nat} (hk:k≤l.length):Strs w B A (l.take k):=by
 refine⟨by simp,fun hn=>?_⟩
 have hl:(l.take k).length=k:=by simp;omega
 obtain⟨ad,e,hb,hc⟩:=h.2 (by omega)
 refine⟨ad,e,hb,fun j u hu=>hc j u ?_⟩
 rw[List.getElem?_map] at hu ⊢
 by_cases hj:j<k
 · rwa [List.getElem?_take_of_lt hj] at hu
 · rw[List.getElem?_eq_none (by simp;omega)] at hu;cases hu
theorem Pb (h:MH) (m:AC) (w:World) (d:MD w w.heap.size h m) (q1:m.sT.length≤100) (q2:m.fT.length≤100) (q3:m.rT.length≤100) (q4:m.mT.length≤100) (q5:m.iT.length≤100)
    (hfit:∀ s∈AV m,s.size≤9223372036854775807) :
    Calls Tryz.prog 18 #[.agg #[.slice h.s m.sT.length h.sc,.slice h.f m.fT.length h.fc,.slice h.r m.rT.length h.rc,.slice h.m m.mT.length h.mc,.slice h.l m.lT.length h.lc,.slice h.i m.iT.length h.ic,.int .i64 m.dT,.int .i64 m.oT,.int .i64 m.vT,.int .i64 m.aT,.slice h.u m.uT.length h.uc]] w fun e w'=>e=.returned (.bool (EE m))∧Below w.heap.size w w':=by
 have HC:=hide (OI h m (w.alloc (.cells #[.slice h.s m.sT.length h.sc,.slice h.f m.fT.length h.fc,.slice h.r m.rT.length h.rc,.slice h.m m.mT.length h.mc,.slice h.l m.lT.length h.lc,.slice h.i m.iT.length h.ic,.int .i64 m.dT,.int .i64 m.oT,.int .i64 m.vT,.int .i64 m.aT,.slice h.u m.uT.length h.uc] 29)) ((MW.start w h m).md d) q1 q2 q3 q4 q5)
 have hlen:(AV m).length≤600:=by rw[← F5];exact(KL q1 q2 q3 q4 q5 _).2.2
 have HN:=hide (show EE m=Bq (fun s pre=>BK s && !Be pre s) (AV m) from rfl)
 clear q1 q2 q3 q4 q5 d
 generalize AV m=L at HC hfit hlen HN
 go_enter Tryz.func18,Tryz.ntmps18
 go_wp2_with (go_at_call 47;refine HC.out.mono ?_;rintro e w1 ⟨A,c,rfl,hc,hS,hb1⟩)
 have hB1:=hide (((Below.refl _ _).alloc (Nat.le_refl _) (.cells #[.slice h.s m.sT.length h.sc,.slice h.f m.fT.length h.fc,.slice h.r m.rT.length h.rc,.slice h.m m.mT.length h.mc,.slice h.l m.lT.length h.lc,.slice h.i m.iT.length h.ic,.int .i64 m.dT,.int .i64 m.oT,.int .i64 m.vT,.int .i64 m.aT,.slice h.u m.uT.length h.uc] 29)).trans (hb1.mono (by simp)):Below w.heap.size w w1)
 clear hb1
 go_loopw [4] (fun i wr=>∃ k:Nat,k≤L.length∧i=.int .i64 k∧Hid (Below w.heap.size w wr)∧Hid (Strs wr wr.heap.size A L)∧Hid (∀ j (hj:j<L.length),j<k→(BK L[j] && !Be (L.take j) L[j])=true)) (fun i _=>L.length - (intOf i).toNat)
 case atStart=>exact⟨0,Nat.zero_le _,rfl,hB1,hS,fun j hj h0=>absurd h0 (by omega)⟩
 case round =>
  obtain⟨k,hk,rfl,hB,hS,hs⟩:=hrel
  clear HC
  by_cases hlt:k<L.length
  · obtain ⟨b,off,hA,hb,x0⟩:=GY hS.out hlt
    subst hA
    have hltI:(k:Int)<(L.length:Int):=by omega
    have hfk:=hfit _ (List.getElem_mem hlt)
    have hkc:(k:Int)≤(c:Int):=by omega
    cases e1:BK L[k]
    · have HV:=hide (HN.out.trans (BS (p:=fun s pre=>BK s && !Be pre s) hlt (by simp[e1])))
      have hU:undef=Value.tuple #[]:=rfl
      go_wp2_with fail
      first|(go_region_with ((go_at_call 48;refine(KI L[k] _ hfk).mono ?_;rintro e w2 ⟨rfl,hb2⟩)))|fail
      all_goals
       go_wp2_with fail
       go_ret
       exact⟨AJ (by rw[HV.out];rfl),hB.out.drew.trans (hb2.mono hB.out.size)⟩
    cases e2:Be (L.take k) L[k]
    all_goals
     have hlt2:(L.take k).length=k:=by simp;omega
     have HT:=hide hlt2
     have HH:=hide fun(X:World) (hX:Below wr.heap.size wr X)=>Ku (some ⟨b,off,none⟩) c (L.take k) L[k] X (by omega) ((hS.out.grow hX).take_ hk)
     rw[e2,hlt2] at HH
     clear hlt2
     go_wp2_with fail
     first|(go_region_held3 (fun X=>X.cell? ⟨b,off+k,none⟩=some (.string L[k])∧Below wr.heap.size wr X) ((first|(go_keep;done)|(refine⟨?_,?_⟩ <;> (first|assumption|exact(Below.refl _ _).drew|exact x0))))
      ((first
        | (go_at_call 48;have hH:=(by assumption:_∧Below wr.heap.size wr _);obtain⟨a0,aB⟩:=hH;refine(KI L[k] _ hfk).mono ?_;rintro e w2 ⟨rfl,hb2⟩;have c0:=(hb2.cell (p:=⟨b,off+k,none⟩) (Nat.lt_of_lt_of_le hb aB.size)).trans a0;have cB:=aB.trans (hb2.mono aB.size);clear a0 aB hb2)
        | (go_at_call 49;refine(HH.out _ (by assumption)).mono ?_;rintro e w3 ⟨rfl,rfl⟩))))|fail
    · have HK:=hide (show(BK L[k] && !Be (L.take k) L[k])=true by rw[e1,e2];rfl)
      all_goals
       go_wp2_with fail
       go_roundw
       case rel=>exact⟨k+1,by omega,by go_num,hide (hB.out.trans (cB.mono hB.out.size)),hide (hS.out.grow cB),fun q hq' h1=>by
        rcases Nat.lt_or_ge q k with h2|h2
        · exact hs q hq' h2
        · obtain rfl:q=k:=by omega
          exact HK⟩
       case measure=>simp[intOf];omega
    · have HV:=hide (HN.out.trans (BS (p:=fun s pre=>BK s && !Be pre s) hlt (by simp[e2])))
      all_goals
       go_wp2_with fail
       go_ret
       exact⟨AJ (by rw[HV.out];rfl),hB.out.trans (cB.mono hB.out.size)⟩
  · have HV:=hide (HN.out.trans (Dg (p:=fun s pre=>BK s && !Be pre s) fun q hq=>hs.out q hq (by omega)))
    go_wp2_with fail
    go_ret
    exact⟨AJ (by rw[HV.out];rfl),hB.out⟩
theorem Dr(w:World)(c1 c2:Array Value)(t1 t2:TypeId):Below w.heap.size w ((w.alloc (.cells c1 t1)).alloc (.cells c2 t2)):=((Below.refl _ _).alloc (Nat.le_refl _) _).alloc (by simp) _
theorem De(w:World)(h:MH)(m:AC)(T:TypeId)(cs:Array Value):Below w.heap.size w ((w.alloc (.cells #[.slice h.s m.sT.length h.sc,.slice h.f m.fT.length h.fc,.slice h.r m.rT.length h.rc,.slice h.m m.mT.length h.mc,.slice h.l m.lT.length h.lc,.slice h.i m.iT.length h.ic,.int .i64 m.dT,.int .i64 m.oT,.int .i64 m.vT,.int .i64 m.aT,.slice h.u m.uT.length h.uc] 29)).alloc (.cells cs T)):=((Below.refl _ _).alloc (Nat.le_refl _) _).alloc (by simp) _
theorem PU (h:MH) (m:AC) (x:Bc) (A:Option Addr) (c:Nat) (w:World) (hl:x.on.length≤9223372036854775807) (hI:Ints w w.heap.size A x.on) :
    Calls Tryz.prog 19 #[.agg #[.slice h.s m.sT.length h.sc,.slice h.f m.fT.length h.fc,.slice h.r m.rT.length h.rc,.slice h.m m.mT.length h.mc,.slice h.l m.lT.length h.lc,.slice h.i m.iT.length h.ic,.int .i64 m.dT,.int .i64 m.oT,.int .i64 m.vT,.int .i64 m.aT,.slice h.u m.uT.length h.uc],.agg #[.string x.name,.int .i64 x.kind,.int .i64 x.count,.int .i64 x.load,.int .i64 x.size,.int .i64 x.share,.slice A x.on.length c]] w fun e w'=>e=.returned (.bool (BM m x))∧Below w.heap.size w w':=by
 have hBW:=De w h m 49 #[.string x.name,.int .i64 x.kind,.int .i64 x.count,.int .i64 x.load,.int .i64 x.size,.int .i64 x.share,.slice A x.on.length c]
 have HI:=hide (hI.grow hBW)
 have HX:=hide (AB.new (w.alloc (.cells #[.slice h.s m.sT.length h.sc,.slice h.f m.fT.length h.fc,.slice h.r m.rT.length h.rc,.slice h.m m.mT.length h.mc,.slice h.l m.lT.length h.lc,.slice h.i m.iT.length h.ic,.int .i64 m.dT,.int .i64 m.oT,.int .i64 m.vT,.int .i64 m.aT,.slice h.u m.uT.length h.uc] 29)) 49 #[.string x.name,.int .i64 x.kind,.int .i64 x.count,.int .i64 x.load,.int .i64 x.size,.int .i64 x.share,.slice A x.on.length c])
 have HB:=hide hBW
 clear hBW
 go_enter Tryz.func19,Tryz.ntmps19
 go_wp2_with (first
  | (go_at_call 50;refine(Hq h m A c x.on _ hl HI.out).mono ?_;rintro e w1 ⟨rfl,hb1⟩
     have hx:=HX.out.below hb1 (by simp)
     have hB1:=hide (HB.out.trans (hb1.mono HB.out.size))
     have y1:=hx.cell 1
     have y2:=hx.cell 2
     have y3:=hx.cell 3
     have y4:=hx.cell 4
     have y5:=hx.cell 5
     have y6:=hx.cell 6
     have ylt:=hx.lt
     simp at y1 y2 y3 y4 y5 y6 ylt
     clear hx hb1)
  | (go_at_call 22;refine(Bw _ _ _ _).mono ?_;rintro e w' ⟨rfl,rfl⟩))
 all_goals
  go_ret
  refine⟨AJ (congrArg Value.bool ?_),hB1.out⟩
  simp_all [BM,Bg]
  try first|omega|rfl|grind
theorem SC (h:MH) (m:AC) (it ot n bY:Int) (al:Bool) (A:Option Addr) (c:Nat) (ms:List Int) (w:World) (d:MD w w.heap.size h m) (_hl:ms.length≤9223372036854775807) (_hI:Ints w w.heap.size A ms) :
    Calls Tryz.prog 20 #[.agg #[.slice h.s m.sT.length h.sc,.slice h.f m.fT.length h.fc,.slice h.r m.rT.length h.rc,.slice h.m m.mT.length h.mc,.slice h.l m.lT.length h.lc,.slice h.i m.iT.length h.ic,.int .i64 m.dT,.int .i64 m.oT,.int .i64 m.vT,.int .i64 m.aT,.slice h.u m.uT.length h.uc],.agg #[.int .i64 0,.int .i64 it,.int .i64 ot,.int .i64 n,.int .i64 bY,.bool al,.slice A ms.length c]] w fun e w'=>e=.returned (.bool (Aj m ⟨0,it,ot,n,bY,al,ms⟩))∧Below w.heap.size w w':=by
 have HB:=hide (De w h m 51 #[.int .i64 0,.int .i64 it,.int .i64 ot,.int .i64 n,.int .i64 bY,.bool al,.slice A ms.length c])
 cases e0:AP it m.iT.length
 · have HR:=hide (show Aj m ⟨0,it,ot,n,bY,al,ms⟩=false by simp[Aj,e0])
   clear d
   go_enter Tryz.func20,Tryz.ntmps20
   go_wp2_with (first
    | (go_at_call 21;refine(Aa _ _ _).mono ?_;rintro e w2 ⟨rfl,rfl⟩)
    | (go_at_call 22;refine(Bw _ _ _ _).mono ?_;rintro e w2 ⟨rfl,rfl⟩))
   all_goals
    go_ret
    exact⟨AJ (by rw[HR.out];rfl),Dr _ _ _ _ _⟩
 · have hit:1≤it∧it≤(m.iT.length:Int):=by simpa[AP] using e0
   obtain⟨j,hj,rfl⟩:∃ j:Nat,j<m.iT.length∧it=(j:Int)+1:=⟨(it - 1).toNat,by omega,by omega⟩
   have hil:=d.il
   obtain⟨b,off,A2,c2,hA,hb,x0,x1,x2,x3,x4,x5,x6,_⟩:=d.dI.item hj
   clear x0 x2 x3 x4 x5 x6
   have hw1:IntKind.i64.wrap ((j:Int)+1 - 1)=(j:Int):=by rw[IntWalk.i64_in _ (by omega)];omega
   have hjI:(j:Int)<(m.iT.length:Int):=by omega
   have hb1:b<w.heap.size+1:=by omega
   have HG:=hide (show m.iT[((j:Int)+1 - 1).toNat]? = some m.iT[j] by simp[hj])
   have HE0:=hide e0
   clear hit
   go_enter Tryz.func20,Tryz.ntmps20
   go_wp2_with (first
    | (go_at_call 21;refine(Aa _ _ _).mono ?_;rintro e w2 ⟨rfl,rfl⟩)
    | (go_at_call 22;refine(Bw _ _ _ _).mono ?_;rintro e w2 ⟨rfl,rfl⟩))
   all_goals
    go_ret
    refine⟨AJ (congrArg Value.bool ?_),Dr _ _ _ _ _⟩
    have hg:=HG.out
    have he:=HE0.out
    simp_all [Aj,DZ]
    try first|rfl|grind
theorem SE (h:MH) (m:AC) (it ot n bY:Int) (al:Bool) (A:Option Addr) (c:Nat) (ms:List Int) (w:World) (_d:MD w w.heap.size h m) (_hl:ms.length≤9223372036854775807) (_hI:Ints w w.heap.size A ms) :
    Calls Tryz.prog 20 #[.agg #[.slice h.s m.sT.length h.sc,.slice h.f m.fT.length h.fc,.slice h.r m.rT.length h.rc,.slice h.m m.mT.length h.mc,.slice h.l m.lT.length h.lc,.slice h.i m.iT.length h.ic,.int .i64 m.dT,.int .i64 m.oT,.int .i64 m.vT,.int .i64 m.aT,.slice h.u m.uT.length h.uc],.agg #[.int .i64 1,.int .i64 it,.int .i64 ot,.int .i64 n,.int .i64 bY,.bool al,.slice A ms.length c]] w fun e w'=>e=.returned (.bool (Aj m ⟨1,it,ot,n,bY,al,ms⟩))∧Below w.heap.size w w':=by
 have HB:=hide (De w h m 51 #[.int .i64 1,.int .i64 it,.int .i64 ot,.int .i64 n,.int .i64 bY,.bool al,.slice A ms.length c])
 go_enter Tryz.func20,Tryz.ntmps20
 go_wp2_with (first
  | (go_at_call 21;refine(Aa _ _ _).mono ?_;rintro e w2 ⟨rfl,rfl⟩)
  | (go_at_call 22;refine(Bw _ _ _ _).mono ?_;rintro e w2 ⟨rfl,rfl⟩))
 all_goals
  go_ret
  refine⟨AJ (congrArg Value.bool ?_),by first|exact hB1.out|exact Dr _ _ _ _ _⟩
  simp_all [Aj,DZ]
  try first|rfl|grind
theorem SF (h:MH) (m:AC) (it ot n bY:Int) (al:Bool) (A:Option Addr) (c:Nat) (ms:List Int) (w:World) (_d:MD w w.heap.size h m) (_hl:ms.length≤9223372036854775807) (_hI:Ints w w.heap.size A ms) :
    Calls Tryz.prog 20 #[.agg #[.slice h.s m.sT.length h.sc,.slice h.f m.fT.length h.fc,.slice h.r m.rT.length h.rc,.slice h.m m.mT.length h.mc,.slice h.l m.lT.length h.lc,.slice h.i m.iT.length h.ic,.int .i64 m.dT,.int .i64 m.oT,.int .i64 m.vT,.int .i64 m.aT,.slice h.u m.uT.length h.uc],.agg #[.int .i64 2,.int .i64 it,.int .i64 ot,.int .i64 n,.int .i64 bY,.bool al,.slice A ms.length c]] w fun e w'=>e=.returned (.bool (Aj m ⟨2,it,ot,n,bY,al,ms⟩))∧Below w.heap.size w w':=by
 have HB:=hide (De w h m 51 #[.int .i64 2,.int .i64 it,.int .i64 ot,.int .i64 n,.int .i64 bY,.bool al,.slice A ms.length c])
 go_enter Tryz.func20,Tryz.ntmps20
 go_wp2_with (first
  | (go_at_call 21;refine(Aa _ _ _).mono ?_;rintro e w2 ⟨rfl,rfl⟩)
  | (go_at_call 22;refine(Bw _ _ _ _).mono ?_;rintro e w2 ⟨rfl,rfl⟩))
 all_goals
  go_ret
  refine⟨AJ (congrArg Value.bool ?_),by first|exact hB1.out|exact Dr _ _ _ _ _⟩
  simp_all [Aj,DZ]
  try first|rfl|grind
theorem SG (h:MH) (m:AC) (it ot n bY:Int) (al:Bool) (A:Option Addr) (c:Nat) (ms:List Int) (w:World) (_d:MD w w.heap.size h m) (hl:ms.length≤9223372036854775807) (hI:Ints w w.heap.size A ms) :
    Calls Tryz.prog 20 #[.agg #[.slice h.s m.sT.length h.sc,.slice h.f m.fT.length h.fc,.slice h.r m.rT.length h.rc,.slice h.m m.mT.length h.mc,.slice h.l m.lT.length h.lc,.slice h.i m.iT.length h.ic,.int .i64 m.dT,.int .i64 m.oT,.int .i64 m.vT,.int .i64 m.aT,.slice h.u m.uT.length h.uc],.agg #[.int .i64 3,.int .i64 it,.int .i64 ot,.int .i64 n,.int .i64 bY,.bool al,.slice A ms.length c]] w fun e w'=>e=.returned (.bool (Aj m ⟨3,it,ot,n,bY,al,ms⟩))∧Below w.heap.size w w':=by
 have HB:=hide (De w h m 51 #[.int .i64 3,.int .i64 it,.int .i64 ot,.int .i64 n,.int .i64 bY,.bool al,.slice A ms.length c])
 go_enter Tryz.func20,Tryz.ntmps20
 go_wp2_with (first
  | (go_at_call 50;refine(Hq h m A c ms _ hl (hI.grow (Dr _ _ _ _ _))).mono ?_;rintro e w1 ⟨rfl,hb1⟩;have hx:=(AB.new (w.alloc _) 51 _).below hb1 (by simp);have hB1:=hide ((Dr _ _ _ _ _).trans (hb1.mono (by simp;omega)));have y2:=hx.cell 2;have y3:=hx.cell 3;have y4:=hx.cell 4;have y5:=hx.cell 5;have ylt:=hx.lt;simp at y2 y3 y4 y5 ylt;clear hx hb1)
  | (go_at_call 21;refine(Aa _ _ _).mono ?_;rintro e w2 ⟨rfl,rfl⟩)
  | (go_at_call 22;refine(Bw _ _ _ _).mono ?_;rintro e w2 ⟨rfl,rfl⟩))
 all_goals
  go_ret
  refine⟨AJ (congrArg Value.bool ?_),by first|exact hB1.out|exact Dr _ _ _ _ _⟩
  simp_all [Aj]
  try first|rfl|grind
theorem SH (h:MH) (m:AC) (it ot n bY:Int) (al:Bool) (A:Option Addr) (c:Nat) (ms:List Int) (w:World) (_d:MD w w.heap.size h m) (_hl:ms.length≤9223372036854775807) (_hI:Ints w w.heap.size A ms) :
    Calls Tryz.prog 20 #[.agg #[.slice h.s m.sT.length h.sc,.slice h.f m.fT.length h.fc,.slice h.r m.rT.length h.rc,.slice h.m m.mT.length h.mc,.slice h.l m.lT.length h.lc,.slice h.i m.iT.length h.ic,.int .i64 m.dT,.int .i64 m.oT,.int .i64 m.vT,.int .i64 m.aT,.slice h.u m.uT.length h.uc],.agg #[.int .i64 4,.int .i64 it,.int .i64 ot,.int .i64 n,.int .i64 bY,.bool al,.slice A ms.length c]] w fun e w'=>e=.returned (.bool (Aj m ⟨4,it,ot,n,bY,al,ms⟩))∧Below w.heap.size w w':=by
 have HB:=hide (De w h m 51 #[.int .i64 4,.int .i64 it,.int .i64 ot,.int .i64 n,.int .i64 bY,.bool al,.slice A ms.length c])
 go_enter Tryz.func20,Tryz.ntmps20
 go_wp2_with (first
  | (go_at_call 21;refine(Aa _ _ _).mono ?_;rintro e w2 ⟨rfl,rfl⟩)
  | (go_at_call 22;refine(Bw _ _ _ _).mono ?_;rintro e w2 ⟨rfl,rfl⟩))
 all_goals
  go_ret
  refine⟨AJ (congrArg Value.bool ?_),by first|exact hB1.out|exact Dr _ _ _ _ _⟩
  simp_all [Aj,DZ]
  try first|rfl|grind
theorem SI (h:MH) (m:AC) (it ot n bY:Int) (al:Bool) (A:Option Addr) (c:Nat) (ms:List Int) (w:World) (_d:MD w w.heap.size h m) (_hl:ms.length≤9223372036854775807) (_hI:Ints w w.heap.size A ms) :
    Calls Tryz.prog 20 #[.agg #[.slice h.s m.sT.length h.sc,.slice h.f m.fT.length h.fc,.slice h.r m.rT.length h.rc,.slice h.m m.mT.length h.mc,.slice h.l m.lT.length h.lc,.slice h.i m.iT.length h.ic,.int .i64 m.dT,.int .i64 m.oT,.int .i64 m.vT,.int .i64 m.aT,.slice h.u m.uT.length h.uc],.agg #[.int .i64 5,.int .i64 it,.int .i64 ot,.int .i64 n,.int .i64 bY,.bool al,.slice A ms.length c]] w fun e w'=>e=.returned (.bool (Aj m ⟨5,it,ot,n,bY,al,ms⟩))∧Below w.heap.size w w':=by
 have HB:=hide (De w h m 51 #[.int .i64 5,.int .i64 it,.int .i64 ot,.int .i64 n,.int .i64 bY,.bool al,.slice A ms.length c])
 go_enter Tryz.func20,Tryz.ntmps20
 go_wp2_with (first
  | (go_at_call 21;refine(Aa _ _ _).mono ?_;rintro e w2 ⟨rfl,rfl⟩)
  | (go_at_call 22;refine(Bw _ _ _ _).mono ?_;rintro e w2 ⟨rfl,rfl⟩))
 all_goals
  go_ret
  refine⟨AJ (congrArg Value.bool ?_),by first|exact hB1.out|exact Dr _ _ _ _ _⟩
  simp_all [Aj,DZ]
  try first|rfl|grind
theorem SK (h:MH) (m:AC) (it ot n bY:Int) (al:Bool) (A:Option Addr) (c:Nat) (ms:List Int) (w:World) (_d:MD w w.heap.size h m) (_hl:ms.length≤9223372036854775807) (_hI:Ints w w.heap.size A ms) :
    Calls Tryz.prog 20 #[.agg #[.slice h.s m.sT.length h.sc,.slice h.f m.fT.length h.fc,.slice h.r m.rT.length h.rc,.slice h.m m.mT.length h.mc,.slice h.l m.lT.length h.lc,.slice h.i m.iT.length h.ic,.int .i64 m.dT,.int .i64 m.oT,.int .i64 m.vT,.int .i64 m.aT,.slice h.u m.uT.length h.uc],.agg #[.int .i64 6,.int .i64 it,.int .i64 ot,.int .i64 n,.int .i64 bY,.bool al,.slice A ms.length c]] w fun e w'=>e=.returned (.bool (Aj m ⟨6,it,ot,n,bY,al,ms⟩))∧Below w.heap.size w w':=by
 have HB:=hide (De w h m 51 #[.int .i64 6,.int .i64 it,.int .i64 ot,.int .i64 n,.int .i64 bY,.bool al,.slice A ms.length c])
 go_enter Tryz.func20,Tryz.ntmps20
 go_wp2_with (first
  | (go_at_call 21;refine(Aa _ _ _).mono ?_;rintro e w2 ⟨rfl,rfl⟩)
  | (go_at_call 22;refine(Bw _ _ _ _).mono ?_;rintro e w2 ⟨rfl,rfl⟩))
 all_goals
  go_ret
  refine⟨AJ (congrArg Value.bool ?_),by first|exact hB1.out|exact Dr _ _ _ _ _⟩
  simp_all [Aj,DZ]
  try first|rfl|grind
theorem RF (h:MH) (m:AC) (kd:Int) (hn:¬ (0≤kd∧kd≤6)) (it ot n bY:Int) (al:Bool) (A:Option Addr) (c:Nat) (ms:List Int) (w:World) (_d:MD w w.heap.size h m) (_hl:ms.length≤9223372036854775807) (_hI:Ints w w.heap.size A ms) :
    Calls Tryz.prog 20 #[.agg #[.slice h.s m.sT.length h.sc,.slice h.f m.fT.length h.fc,.slice h.r m.rT.length h.rc,.slice h.m m.mT.length h.mc,.slice h.l m.lT.length h.lc,.slice h.i m.iT.length h.ic,.int .i64 m.dT,.int .i64 m.oT,.int .i64 m.vT,.int .i64 m.aT,.slice h.u m.uT.length h.uc],.agg #[.int .i64 kd,.int .i64 it,.int .i64 ot,.int .i64 n,.int .i64 bY,.bool al,.slice A ms.length c]] w fun e w'=>e=.returned (.bool (Aj m ⟨kd,it,ot,n,bY,al,ms⟩))∧Below w.heap.size w w':=by
 have HB:=hide (De w h m 51 #[.int .i64 kd,.int .i64 it,.int .i64 ot,.int .i64 n,.int .i64 bY,.bool al,.slice A ms.length c])
 have n0:(kd == 0)=false:=by simp;omega
 have n1:(kd == 1)=false:=by simp;omega
 have n2:(kd == 2)=false:=by simp;omega
 have n3:(kd == 3)=false:=by simp;omega
 have n4:(kd == 4)=false:=by simp;omega
 have n5:(kd == 5)=false:=by simp;omega
 have n6:(kd == 6)=false:=by simp;omega
 have HR:=hide (show Aj m ⟨kd,it,ot,n,bY,al,ms⟩=false by unfold Aj;simp only[];repeat rw[if_neg (by omega)])
 clear hn
 go_enter Tryz.func20,Tryz.ntmps20
 go_wp2_with (first
  | (go_at_call 21;refine(Aa _ _ _).mono ?_;rintro e w2 ⟨rfl,rfl⟩)
  | (go_at_call 22;refine(Bw _ _ _ _).mono ?_;rintro e w2 ⟨rfl,rfl⟩))
 all_goals
  go_ret
  refine⟨AJ (congrArg Value.bool ?_),by first|exact hB1.out|exact Dr _ _ _ _ _⟩
  simp only[HR.out]
theorem Pz (h:MH) (m:AC) (x:AR) (A:Option Addr) (c:Nat) (w:World) (d:MD w w.heap.size h m) (hl:x.machines.length≤9223372036854775807) (hI:Ints w w.heap.size A x.machines) :
    Calls Tryz.prog 20 #[.agg #[.slice h.s m.sT.length h.sc,.slice h.f m.fT.length h.fc,.slice h.r m.rT.length h.rc,.slice h.m m.mT.length h.mc,.slice h.l m.lT.length h.lc,.slice h.i m.iT.length h.ic,.int .i64 m.dT,.int .i64 m.oT,.int .i64 m.vT,.int .i64 m.aT,.slice h.u m.uT.length h.uc],.agg #[.int .i64 x.kind,.int .i64 x.item,.int .i64 x.other,.int .i64 x.n,.int .i64 x.by_,.bool x.always,.slice A x.machines.length c]] w fun e w'=>e=.returned (.bool (Aj m x))∧Below w.heap.size w w':=by
 obtain⟨kd,it,ot,n,bY,al,ms⟩:=x
 by_cases hk:0≤kd∧kd≤6
 · have:kd=0∨kd=1∨kd=2∨kd=3∨kd=4∨kd=5∨kd=6:=by omega
   rcases this with rfl|rfl|rfl|rfl|rfl|rfl|rfl
   · exact SC h m it ot n bY al A c ms w d hl hI
   · exact SE h m it ot n bY al A c ms w d hl hI
   · exact SF h m it ot n bY al A c ms w d hl hI
   · exact SG h m it ot n bY al A c ms w d hl hI
   · exact SH h m it ot n bY al A c ms w d hl hI
   · exact SI h m it ot n bY al A c ms w d hl hI
   · exact SK h m it ot n bY al A c ms w d hl hI
 · exact RF h m kd hk it ot n bY al A c ms w d hl hI
end Go.Proofs.YtfemlajeomohhaaGreatDoor
