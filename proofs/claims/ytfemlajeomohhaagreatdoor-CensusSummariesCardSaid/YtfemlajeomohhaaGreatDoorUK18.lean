/- A part of the claim: see its last text. -/
import Derived.Test.YtfemlajeomohhaaGreatDoorUK17

set_option maxRecDepth 100000
set_option maxHeartbeats 16000000
namespace Go.Proofs.YtfemlajeomohhaaGreatDoor
open Go Go.RowKit Go.Proofs
theorem Gw (m:AC) (r:AR) (p:AA):CU m r p=Ae (fun n=>decide (r.n<n)) (BU m p r.item r.by_)+1:=by
 unfold CU Ae
 cases (BU m p r.item r.by_).findIdx? fun n=>decide (r.n<n) <;> rfl
theorem Me (m:AC) (r:AR) (p:AA):decide (CU m r p=0)=decide (Ae (fun n=>decide (r.n<n)) (BU m p r.item r.by_)<0):=by
 rw[Gw,decide_eq_decide]
 unfold Ae
 cases (BU m p r.item r.by_).findIdx? fun n=>decide (r.n<n) with
 | none=>simp
 | some i=>simp;omega
theorem Io {α:Type} (p:α→Bool) (l:List α) : -1≤Ae p l∧Ae p l<l.length+1:=by
 unfold Ae
 cases h:l.findIdx? p with
 | none=>simp;omega
 | some k =>
   have:=(List.findIdx?_eq_some_iff_getElem.1 h).1
   simp;omega
theorem PQ (n:Int) (x:AR) (A:Option Addr) (c bx:Nat) (W:World) (hX:AB W bx 51 #[.int .i64 x.kind,.int .i64 x.item,.int .i64 x.other,.int .i64 x.n,.int .i64 x.by_,.bool x.always,.slice A x.machines.length c]) :
    Calls Tryz.prog 185 #[.int .i64 n,.pointer (some ⟨bx,0,none⟩)] W fun e w'=>e=.returned (.bool (decide (x.n<n)))∧Below W.heap.size W w':=by
 have x0:=hX.cell 3
 have hlt:=hX.lt
 simp at x0
 have HB:=hide (Below.refl W.heap.size W)
 go_enter Tryz.func185,Tryz.ntmps185
 go_wp2_with fail
 go_ret
 exact⟨rfl,HB.out⟩
theorem OC (h:MH) (m:AC) (x:AR) (A:Option Addr) (c:Nat) (Ap:Option Addr) (cp:Nat) (p:AA) (f:Int×Int) (w:World) (C:Cond w h m x A Ap cp p) :
    Calls Tryz.prog 182 #[.agg #[.slice h.s m.sT.length h.sc,.slice h.f m.fT.length h.fc,.slice h.r m.rT.length h.rc,.slice h.m m.mT.length h.mc,.slice h.l m.lT.length h.lc,.slice h.i m.iT.length h.ic,.int .i64 m.dT,.int .i64 m.oT,.int .i64 m.vT,.int .i64 m.aT,.slice h.u m.uT.length h.uc],.agg #[.int .i64 x.kind,.int .i64 x.item,.int .i64 x.other,.int .i64 x.n,.int .i64 x.by_,.bool x.always,.slice A x.machines.length c],.agg #[.slice Ap p.length cp],.agg #[.int .i64 f.1,.int .i64 f.2]] w (Hu (CU m x p) (decide (CU m x p=0)) w):=by
 have HS:=hide (S4.start w #[.slice h.s m.sT.length h.sc,.slice h.f m.fT.length h.fc,.slice h.r m.rT.length h.rc,.slice h.m m.mT.length h.mc,.slice h.l m.lT.length h.lc,.slice h.i m.iT.length h.ic,.int .i64 m.dT,.int .i64 m.oT,.int .i64 m.vT,.int .i64 m.aT,.slice h.u m.uT.length h.uc] #[.int .i64 x.kind,.int .i64 x.item,.int .i64 x.other,.int .i64 x.n,.int .i64 x.by_,.bool x.always,.slice A x.machines.length c] #[.slice Ap p.length cp] #[.int .i64 f.1,.int .i64 f.2])
 have HC:=hide (OY h m Ap cp p x.item x.by_ _ (C.grow HS.out.b).d (C.grow HS.out.b).pt C.l C.u C.dm)
 have HSL:=hide (show(BU m p x.item x.by_).length≤100 by rw[Dc,DL];have:=C.dm;have:=Cw m x.by_;omega)
 have HV:=hide (Me m x p)
 rw[HV.out,Gw]
 clear C HV
 go_enter Tryz.func182,Tryz.ntmps182
 have hrg:=Io (fun n=>decide (x.n<n)) (BU m p x.item x.by_)
 obtain⟨q,hq⟩:∃ q,q=Ae (fun n=>decide (x.n<n)) (BU m p x.item x.by_):=⟨_,rfl⟩
 rw[← hq] at hrg ⊢
 have HQ:=hide hq
 have hr1 : -1≤q:=hrg.1
 have hr2:q≤1000:=by have:=HSL.out;omega
 clear hq hrg
 go_wp2_with (first
  | (go_at_call 184;refine HC.out.mono ?_;rintro e w1 ⟨v,rfl,ho,hb⟩;obtain⟨A1,c1,rfl,hc1,hI⟩:=ho.form
     have HB1:=hide hb
     have HI:=hide (Dq 185 #[.pointer (some ⟨w.heap.size+1,0,none⟩)] (fun _ _=>by kernel_rfl) (fun n=>decide (x.n<n)) A1 c1 _ w1 (by have:=HSL.out;omega) hI (fun k hk W hW=>PQ _ x A c _ W ((HS.out.grow (hb.trans (hW.mono hb.size))).x)))
     clear hb ho hI)
  | (go_at_call 183;refine HI.out.mono ?_;rintro e w2 ⟨he,hb2⟩;rw[← HQ.out] at he;subst he;have HB2:=hide hb2;clear hb2))
 go_ret2
 have hb:=HS.out.b.trans (HB1.out.mono HS.out.b.size)
 exact⟨rfl,hb.trans (HB2.out.mono hb.size)⟩
def EvS(l:List AO)(w:World)(v i:Value)(wr:World):Prop:=∃ k:Nat,k≤l.length∧i=.int .i64 k∧Hid (Av w.heap.size wr v ((l.take k).map (·.1)))∧Below w.heap.size w wr
theorem KA (A:Option Addr) (c:Nat) (p:AA) (item:Int) (w:World) (h:PR w w.heap.size A p) (hl:p.length≤1000) (hul:(AQ p item).length≤1000) :
    Calls Tryz.prog 187 #[.agg #[.slice A p.length c],.int .i64 item] w (GZ w ((AQ p item).map (·.1))):=by
 have HB:=hide ((Below.refl w.heap.size w).alloc (Nat.le_refl _) (.cells #[.slice A p.length c] 56))
 by_cases e1:item<1
 · have HU:=hide (Du (p:=p) (item:=item) (by simp[AP];omega))
   rw[HU.out]
   go_enter Tryz.func187,Tryz.ntmps187
   go_wp2_with fail
   go_ret
   exact⟨_,rfl,Av.nil_ _ _,HB.out⟩
 by_cases e2:(p.length:Int)<item
 · have HU:=hide (Du (p:=p) (item:=item) (by simp[AP];omega))
   rw[HU.out]
   go_enter Tryz.func187,Tryz.ntmps187
   go_wp2_with fail
   go_ret
   exact⟨_,rfl,Av.nil_ _ _,HB.out⟩
 · obtain ⟨j,hj,rfl⟩:∃ j:Nat,j<p.length∧item=(j:Int)+1:=⟨(item - 1).toNat,by omega,by omega⟩
   obtain⟨b,off,A2,c2,rfl,hb,x0,_,_,hu⟩:=h j hj
   have HU:=hide (DJ hj)
   rw[HU.out] at hul ⊢
   obtain⟨l,hl2⟩:∃ l,l=p[j]:=⟨_,rfl⟩
   rw[← hl2] at x0 hu hul ⊢
   have HT:=hide hu
   have hjI:(j:Int)<(p.length:Int):=by omega
   have hjd:decide ((j:Int)+1≤(p.length:Int))=true:=by simp;omega
   clear hu h HU hl2 e1 e2
   have H0:=hide (Av.nil_ w.heap.size (w.alloc (.cells #[.slice (some ⟨b,off,none⟩) p.length c] 56)))
   go_enter Tryz.func187,Tryz.ntmps187
   go_wp2_with fail
   go_loopw [5,24] (fun v i wr=>EvS l w v i wr) (fun _ i _=>l.length - (intOf i).toNat)
   case atStart=>exact⟨0,Nat.zero_le _,rfl,H0,HB.out⟩
   case round =>
    clear H0
    obtain⟨k,hk,rfl,hM,hbr⟩:=hrel
    by_cases hlt:k<l.length
    · obtain⟨b1,off1,hA,hb1,z0,z1⟩:=(HT.out.grow hbr).at_ hlt
      subst hA
      obtain⟨y,hy⟩:∃ y,y=l[k]:=⟨_,rfl⟩
      have HFX:=hide (show(l.take (k+1)).map (·.1)=(l.take k).map (·.1) ++ [y.1] by rw[List.take_succ_eq_append_getElem hlt,List.map_append,hy];rfl)
      obtain⟨q,hq⟩:∃ q,q=(l.take k).map (·.1):=⟨_,rfl⟩
      have hql:q.length≤1000:=by rw[hq];simp;omega
      rw[← hq] at hM HFX
      rw[← hy] at z0 z1
      have hbw:=hide hbr
      have HO2:=hide (((hM.out.below ((Below.refl wr.heap.size wr).alloc (Nat.le_refl _) (.cells #[.int .i64 y.1,.int .i64 y.2] 72)))).alloc (.cells #[.int .i64 y.1] 3))
      obtain⟨A3,c3,rfl,hc3,_⟩:=hM.out.form
      have HR2:=hide (show Ints ((wr.alloc (.cells #[.int .i64 y.1,.int .i64 y.2] 72)).alloc (.cells #[.int .i64 y.1] 3)) (wr.heap.size+1+1) (some ⟨wr.heap.size+1,0,none⟩) [y.1] from by
       have:=Ints.newRow2 (wr.alloc (.cells #[.int .i64 y.1,.int .i64 y.2] 72)) (b:=wr.heap.size+1) 3 [y.1] (by simp)
       simpa using this)
      have hzz:w.heap.size≤wr.heap.size:=hbr.size
      clear hq hy hbr
      go_wp2_with (at_builtin;refine FN rfl _ _ rfl w.heap.size _ q rfl HO2.out (wr.heap.size+1+1) (some ⟨wr.heap.size+1,0,none⟩) 1 [y.1] rfl HR2.out (by simp;omega) (by simp;omega) ?_;intro v3 w3 ho3 hg3 _;have ho3:=hide ho3;have hg3:=hide hg3)
      have hb3:Below w.heap.size w w3:=((hbw.out.alloc hbw.out.size (.cells #[.int .i64 y.1,.int .i64 y.2] 72)).alloc (by simp;omega) (.cells #[.int .i64 y.1] 3)).grown hg3.out (by simp;omega) (fun g hg=>(HO2.out.lt g hg).1)
      go_roundw
      case rel=>exact⟨k+1,by omega,by go_num,hide (by rw[HFX.out];exact ho3.out),hb3⟩
      case measure=>simp[intOf];omega
    · obtain rfl:k=l.length:=by omega
      have hM2:=hM.out
      rw[List.take_length] at hM2
      have HM:=hide hM2
      clear hM hM2
      go_wp2_with fail
      go_ret
      exact⟨_,rfl,HM.out,hbr⟩
theorem Kq (r:AR) (p:AA):decide (BC r p=none)=decide (Ae (fun n=>!decide (n∈r.machines)) ((AQ p r.item).map (·.1))<0):=by
 rw[decide_eq_decide]
 unfold BC Ae
 rw[List.find?_eq_none]
 cases h:((AQ p r.item).map (·.1)).findIdx? (fun n=>!decide (n∈r.machines)) with
 | none =>
   rw[List.findIdx?_eq_none_iff] at h
   simp only[Int.reduceNeg,Int.reduceLT,iff_true]
   intro x hx
   rw[h x hx];simp
 | some i =>
   obtain⟨hi,hp,_⟩:=List.findIdx?_eq_some_iff_getElem.1 h
   constructor
   · intro hh
     exact absurd hp (hh _ (List.getElem_mem hi))
   · intro hh
     have:(i:Int)<0:=hh
     omega
theorem J7 (r:AR) (p:AA):(BC r p).getD 0=if Ae (fun n=>!decide (n∈r.machines)) ((AQ p r.item).map (·.1))<0 then 0 else(((AQ p r.item).map (·.1))[(Ae (fun n=>!decide (n∈r.machines)) ((AQ p r.item).map (·.1))).toNat]?).getD 0:=by
 unfold BC Ae
 generalize (AQ p r.item).map (·.1)=L
 have e:∀ (l:List Int) (f:Int→Bool),l.find? f=match l.findIdx? f with|some i=>l[i]? | none=>none:=fun l f=>by
  induction l with
  | nil=>rfl
  | cons a l ih =>
    rw[List.find?_cons,List.findIdx?_cons]
    cases h:f a
    · simp only[Bool.false_eq_true,↓reduceIte]
      rw[ih]
      cases l.findIdx? f <;> simp
    · simp
 rw[e]
 cases h:L.findIdx? fun n=>!decide (n∈r.machines) with
 | none=>rfl
 | some i=>simp only[Int.toNat_natCast];rw[if_neg (by omega)]
theorem Iy (n:Int) (x:AR) (A:Option Addr) (c bx:Nat) (W:World) (hX:AB W bx 51 #[.int .i64 x.kind,.int .i64 x.item,.int .i64 x.other,.int .i64 x.n,.int .i64 x.by_,.bool x.always,.slice A x.machines.length c]) (hl:x.machines.length≤9223372036854775807) (hI:Ints W W.heap.size A x.machines) :
    Calls Tryz.prog 188 #[.int .i64 n,.pointer (some ⟨bx,0,none⟩)] W fun e w'=>e=.returned (.bool (!decide (n∈x.machines)))∧Below W.heap.size W w':=by
 have x0:=hX.cell 6
 have hlt:=hX.lt
 simp at x0
 have HC:=hide (DV A c x.machines n W (by omega) hI)
 clear hI
 go_enter Tryz.func188,Tryz.ntmps188
 go_wp2_with (go_at_call 65;refine HC.out.mono ?_;rintro e w1 ⟨rfl,rfl⟩)
 go_ret
 exact⟨by rfl,Below.refl _ _⟩
theorem OD (h:MH) (m:AC) (x:AR) (A:Option Addr) (c:Nat) (Ap:Option Addr) (cp:Nat) (p:AA) (f:Int×Int) (w:World) (C:Cond w h m x A Ap cp p) :
    Calls Tryz.prog 186 #[.agg #[.slice h.s m.sT.length h.sc,.slice h.f m.fT.length h.fc,.slice h.r m.rT.length h.rc,.slice h.m m.mT.length h.mc,.slice h.l m.lT.length h.lc,.slice h.i m.iT.length h.ic,.int .i64 m.dT,.int .i64 m.oT,.int .i64 m.vT,.int .i64 m.aT,.slice h.u m.uT.length h.uc],.agg #[.int .i64 x.kind,.int .i64 x.item,.int .i64 x.other,.int .i64 x.n,.int .i64 x.by_,.bool x.always,.slice A x.machines.length c],.agg #[.slice Ap p.length cp],.agg #[.int .i64 f.1,.int .i64 f.2]] w (Hu ((BC x p).getD 0) (decide (BC x p=none)) w):=by
 have HS:=hide (S4.start w #[.slice h.s m.sT.length h.sc,.slice h.f m.fT.length h.fc,.slice h.r m.rT.length h.rc,.slice h.m m.mT.length h.mc,.slice h.l m.lT.length h.lc,.slice h.i m.iT.length h.ic,.int .i64 m.dT,.int .i64 m.oT,.int .i64 m.vT,.int .i64 m.aT,.slice h.u m.uT.length h.uc] #[.int .i64 x.kind,.int .i64 x.item,.int .i64 x.other,.int .i64 x.n,.int .i64 x.by_,.bool x.always,.slice A x.machines.length c] #[.slice Ap p.length cp] #[.int .i64 f.1,.int .i64 f.2])
 have HC:=hide (KA Ap cp p x.item _ (C.grow HS.out.b).pt C.l C.u)
 have HML:=hide C.il
 have HIM:=hide C.i
 have HV:=hide (Kq x p)
 have HPL:=hide (J7 x p)
 obtain⟨L,hL⟩:∃ L,L=(AQ p x.item).map (·.1):=⟨_,rfl⟩
 have hLl:L.length≤1000:=by rw[hL];have:=C.u;simpa using this
 rw[HV.out,HPL.out]
 rw[← hL] at HC ⊢
 clear C HV HPL hL
 go_enter Tryz.func186,Tryz.ntmps186
 have hrg:=Io (fun n=>!decide (n∈x.machines)) L
 obtain⟨q,hq⟩:∃ q,q=Ae (fun n=>!decide (n∈x.machines)) L:=⟨_,rfl⟩
 rw[← hq] at hrg ⊢
 have HQ:=hide hq
 have hr1 : -1≤q:=hrg.1
 have hr2:q<L.length+1:=hrg.2
 have HR3:=hide (show 0≤q→q<L.length from fun h0=>by
  unfold Ae at hq
  cases h:L.findIdx? (fun n=>!decide (n∈x.machines)) with
  | none=>rw[h] at hq;simp only at hq;omega
  | some k =>
    have:=(List.findIdx?_eq_some_iff_getElem.1 h).1
    rw[h] at hq;simp only at hq;omega)
 clear hq hrg
 by_cases hq0:q<0
 · rw [if_pos hq0]
   go_wp2_with (first
    | (go_at_call 187;refine HC.out.mono ?_;rintro e w1 ⟨v,rfl,ho,hb⟩;obtain⟨A1,c1,rfl,hc1,hI⟩:=ho.form
       have HB1:=hide hb
       have HI:=hide (Dq 188 #[.pointer (some ⟨w.heap.size+1,0,none⟩)] (fun _ _=>by kernel_rfl) (fun n=>!decide (n∈x.machines)) A1 c1 L w1 (by omega) hI (fun k hk W hW=>Iy _ x A c _ W ((HS.out.grow (hb.trans (hW.mono hb.size))).x) HML.out (HIM.out.grow (HS.out.grow (hb.trans (hW.mono hb.size))).b)))
       clear hb ho hI)
    | (go_at_call 183;refine HI.out.mono ?_;rintro e w2 ⟨he,hb2⟩;rw[← HQ.out] at he;subst he;have HB2:=hide hb2;clear hb2))
   go_ret2
   have hb:=HS.out.b.trans (HB1.out.mono HS.out.b.size)
   exact⟨by rw[decide_eq_true hq0];rfl,hb.trans (HB2.out.mono hb.size)⟩
 · obtain ⟨i,hi,rfl⟩:∃ i:Nat,i<L.length∧q=(i:Int):=⟨q.toNat,by have:=HR3.out (by omega);omega,by omega⟩
   have hiI:(i:Int)<(L.length:Int):=by omega
   rw[show(if(i:Int)<0 then(0:Int) else(L[((i:Nat):Int).toNat]?).getD 0)=L[i] by rw[if_neg (by omega),Int.toNat_natCast,List.getElem?_eq_getElem hi];rfl]
   go_wp2_with (first
    | (go_at_call 187;refine HC.out.mono ?_;rintro e w1 ⟨v,rfl,ho,hb⟩;obtain⟨A1,c1,rfl,hc1,hI⟩:=ho.form
       have HB1:=hide hb
       have HII:=hide hI
       have HI:=hide (Dq 188 #[.pointer (some ⟨w.heap.size+1,0,none⟩)] (fun _ _=>by kernel_rfl) (fun n=>!decide (n∈x.machines)) A1 c1 L w1 (by omega) hI (fun k hk W hW=>Iy _ x A c _ W ((HS.out.grow (hb.trans (hW.mono hb.size))).x) HML.out (HIM.out.grow (HS.out.grow (hb.trans (hW.mono hb.size))).b)))
       clear hb ho hI)
    | (go_at_call 183;refine HI.out.mono ?_;rintro e w2 ⟨he,hb2⟩;rw[← HQ.out] at he;subst he;obtain⟨b1,off1,hA1,hb1,z0⟩:=Dy (HII.out.grow hb2) hi;subst hA1;have HB2:=hide hb2;clear hb2))
   go_ret2
   have hb:=HS.out.b.trans (HB1.out.mono HS.out.b.size)
   exact⟨by rw[decide_eq_false (by omega)];rfl,hb.trans (HB2.out.mono hb.size)⟩
def hFn(k:Nat):Nat:=match k with|0=>178|1=>180|2=>182|_=>186
def Iq(bx k:Nat):Array Value:=match k with|0=>#[.pointer (some ⟨bx,0,none⟩)]|1=>#[.pointer (some ⟨bx,0,none⟩)]|_=>#[]
def JR(k:Nat):Nat:=match k with|0=>179|1=>181|_=>175
def H9(bx k:Nat):Value:=.agg #[.func (.func (hFn k)) #[] (Iq bx k),.func (.func (JR k)) #[] #[]]
theorem QP(w:World):(zeroValue 165).run Tryz.prog w=.ok (.agg #[.nilFunc,.nilFunc]) w:=by kernel_rfl
theorem Gh {w:World} {r bx:Nat} (h:w.heap[r]? = some (.map (BR (H9 bx) 4) 4)) {k:Nat} (hk:k<4) :
    (Instr.lookup 167 (.map (some r)) (.int .i64 (k:Int)) true).run Tryz.prog w=.ok (.tuple #[.agg #[.func (.func (hFn k)) #[] (Iq bx k),.func (.func (JR k)) #[] #[]],.bool true]) w:=by
 have hf:Instr.findNow (.int .i64) (.int .i64 (k:Int)) (BR (H9 bx) 4).toList 0=some (some (k,H9 bx k)):=by
  rw[Gd (H9 bx) 4 k,if_pos (by omega)]
  simp
 exact Ak Tryz.underlying167 Tryz.underlying3 (QP w) h hf (b:=true) rfl
def Tn(w:World)(e:Ending)(w':World):Prop:=e=.returned (.map (some (w.heap.size+1)))∧w'.heap[w.heap.size+1]? = some (.map (BR (H9 w.heap.size) 4) 4)∧AB w' w.heap.size 186 #[.func (.func 176) #[] #[]]∧Below w.heap.size w w'
theorem I1 (w:World):Calls Tryz.prog 122 #[] w (Tn w):=by
 have hmm:=@run_makeMap Tryz.prog
 have HE:=hide (show(w.alloc (.cells #[.func (.func 176) #[] #[]] 186)).heap.size=w.heap.size+1 by simp)
 have HM:=hide (heap_alloc_new (w.alloc (.cells #[.func (.func 176) #[] #[]] 186)) (.map (BR (H9 w.heap.size) 4) 4))
 have HB:=hide ((AB.new w 186 #[.func (.func 176) #[] #[]]).alloc (.map (BR (H9 w.heap.size) 4) 4))
 have HL:=hide (((Below.refl w.heap.size w).alloc (Nat.le_refl _) (.cells #[.func (.func 176) #[] #[]] 186)).alloc (by simp) (.map (BR (H9 w.heap.size) 4) 4))
 go_enter Tryz.func122,Tryz.ntmps122
 go_wp2_with (refine Df rfl rfl _ _ _ _ rfl Tryz.underlying167 Tryz.underlying3 (H9 w.heap.size) rfl HE.out.symm rfl rfl rfl rfl ?_)
 go_ret
 refine⟨rfl,?_,HB.out,HL.out⟩
 have:=HM.out
 rw[HE.out] at this
 exact this
def D5(m:AC)(x:AR)(p:AA):Int:=if x.kind=2 then CU m x p else if x.kind=3 then(BC x p).getD 0 else 0
theorem Qs (k:Nat) (hk:k<4) (h:MH) (m:AC) (x:AR) (hkd:x.kind=(k:Int)) (A:Option Addr) (c:Nat) (Ap:Option Addr) (cp:Nat) (p:AA) (f:Int×Int) (bx:Nat) (w:World) (C:Cond w h m x A Ap cp p) (hB:AB w bx 186 #[.func (.func 176) #[] #[]]) :
    Calls Tryz.prog (hFn k) (#[.agg #[.slice h.s m.sT.length h.sc,.slice h.f m.fT.length h.fc,.slice h.r m.rT.length h.rc,.slice h.m m.mT.length h.mc,.slice h.l m.lT.length h.lc,.slice h.i m.iT.length h.ic,.int .i64 m.dT,.int .i64 m.oT,.int .i64 m.vT,.int .i64 m.aT,.slice h.u m.uT.length h.uc],.agg #[.int .i64 x.kind,.int .i64 x.item,.int .i64 x.other,.int .i64 x.n,.int .i64 x.by_,.bool x.always,.slice A x.machines.length c],.agg #[.slice Ap p.length cp],.agg #[.int .i64 f.1,.int .i64 f.2]]++Iq bx k) w (Hu (D5 m x p) (Bf m x p f) w):=by
 have h4:k=0∨k=1∨k=2∨k=3:=by omega
 rcases h4 with rfl|rfl|rfl|rfl
 · have hkd:x.kind=0:=hkd
   have e:Bf m x p f=decide ((Af p x.item 0).length<2*(Bo m p f x.item).length):=by unfold Bf;rw[if_pos hkd]
   rw[e,show D5 m x p=0 by unfold D5;rw[if_neg (by omega),if_neg (by omega)]]
   exact N9 h m x A c Ap cp p f bx w C hB
 · have hkd:x.kind=1:=hkd
   cases ha:x.always
   · have e:Bf m x p f=decide (x.n≤((Bo m p f x.item).length:Int)):=by unfold Bf;rw[if_neg (by omega),if_pos hkd,ha];rfl
     rw[e,show D5 m x p=0 by unfold D5;rw[if_neg (by omega),if_neg (by omega)],← ha]
     exact Qw h m x A c Ap cp p f bx w C hB ha
   · have e:Bf m x p f=decide (x.n≤((Bo m p (0,0) x.item).length:Int)):=by unfold Bf;rw[if_neg (by omega),if_pos hkd,ha];rfl
     rw[e,show D5 m x p=0 by unfold D5;rw[if_neg (by omega),if_neg (by omega)],← ha]
     exact PY h m x A c Ap cp p f bx w C hB ha
 · have hkd:x.kind=2:=hkd
   have e:Bf m x p f=decide (CU m x p=0):=by unfold Bf;rw[if_neg (by omega),if_neg (by omega),if_pos hkd]
   rw[e,show D5 m x p=CU m x p by unfold D5;rw[if_pos hkd]]
   exact OC h m x A c Ap cp p f w C
 · have hkd:x.kind=3:=hkd
   have e:Bf m x p f=decide (BC x p=none):=by unfold Bf;rw[if_neg (by omega),if_neg (by omega),if_neg (by omega),if_pos hkd]
   rw[e,show D5 m x p=(BC x p).getD 0 by unfold D5;rw[if_neg (by omega),if_pos hkd]]
   exact OD h m x A c Ap cp p f w C
theorem TI (k:Nat) (hk:k<4):∀ args w,(callFunc (hFn k) args).run Tryz.prog w=.ok (.enter (hFn k) args) w:=by
 match k,hk with
 | 0,_=>exact(show ∀ args w,(callFunc 178 args).run Tryz.prog w=.ok (.enter 178 args) w from fun args w=>by kernel_rfl)
 | 1,_=>exact(show ∀ args w,(callFunc 180 args).run Tryz.prog w=.ok (.enter 180 args) w from fun args w=>by kernel_rfl)
 | 2,_=>exact(show ∀ args w,(callFunc 182 args).run Tryz.prog w=.ok (.enter 182 args) w from fun args w=>by kernel_rfl)
 | 3,_=>exact(show ∀ args w,(callFunc 186 args).run Tryz.prog w=.ok (.enter 186 args) w from fun args w=>by kernel_rfl)
theorem TH (k:Nat) (hk:k<4):∀ args w,(callFunc (JR k) args).run Tryz.prog w=.ok (.enter (JR k) args) w:=by
 match k,hk with
 | 0,_=>exact(show ∀ args w,(callFunc 179 args).run Tryz.prog w=.ok (.enter 179 args) w from fun args w=>by kernel_rfl)
 | 1,_=>exact(show ∀ args w,(callFunc 181 args).run Tryz.prog w=.ok (.enter 181 args) w from fun args w=>by kernel_rfl)
 | 2,_=>exact(show ∀ args w,(callFunc 175 args).run Tryz.prog w=.ok (.enter 175 args) w from fun args w=>by kernel_rfl)
 | 3,_=>exact(show ∀ args w,(callFunc 175 args).run Tryz.prog w=.ok (.enter 175 args) w from fun args w=>by kernel_rfl)
def Hy(k:Nat)(x:AR):Bool:=match k with|0=>true|1=>!x.always|_=>false
theorem Sm (k:Nat) (hk:k<4) (x:AR) (A:Option Addr) (c:Nat) (w:World):Calls Tryz.prog (JR k) #[.agg #[.int .i64 x.kind,.int .i64 x.item,.int .i64 x.other,.int .i64 x.n,.int .i64 x.by_,.bool x.always,.slice A x.machines.length c]] w (Br w (.bool (Hy k x))):=by
 have h4:k=0∨k=1∨k=2∨k=3:=by omega
 rcases h4 with rfl|rfl|rfl|rfl
 · exact OA x A c w
 · exact OB x A c w
 · exact Jd x A c w
 · exact Jd x A c w
theorem KG {w:World} {r:Nat} {o':Obj} (h:w.heap[r]? = some o') (q:Obj):(w.alloc q).heap[r]? = some o' :=
 (Below.heap_alloc w q r (Array.getElem?_eq_some_iff.1 h).1).trans h
def FJ (w:World) (M X P F:Array Value) (k:Nat) (v:Value) (W:World):Prop :=
 ∃ Fb bx,v=.pointer (some ⟨Fb,0,none⟩)∧S4 w M X P F W∧AB W Fb 165 #[.func (.func (hFn k)) #[] (Iq bx k),.func (.func (JR k)) #[] #[]]∧AB W bx 186 #[.func (.func 176) #[] #[]]
theorem FJ.soon {w:World} {M X P F:Array Value} {k:Nat} {W w1:World} (s:S4 w M X P F W) (hb:Below W.heap.size W w1) {bx:Nat} (hBx:AB w1 bx 186 #[.func (.func 176) #[] #[]]) :
    FJ w M X P F k (.pointer (some ⟨w1.heap.size,0,none⟩)) (w1.alloc (.cells #[.func (.func (hFn k)) #[] (Iq bx k),.func (.func (JR k)) #[] #[]] 165)) :=
 ⟨w1.heap.size,bx,rfl,S4.grow (s.grow hb) ((Below.refl _ _).alloc (Nat.le_refl _) _),AB.new _ _ _,hBx.alloc _⟩
theorem FJ.late {w:World} {M X P F:Array Value} {k:Nat} {W W0 w1:World} (s:S4 w M X P F W) (h0:Below W.heap.size W W0) {Fb:Nat} (hFb:w.heap.size+1+1+1+1≤Fb) (hF:AB W0 Fb 165 #[.nilFunc,.nilFunc]) (hb:Below W0.heap.size W0 w1) {bx:Nat} (hBx:AB w1 bx 186 #[.func (.func 176) #[] #[]]) :
    FJ w M X P F k (.pointer (some ⟨Fb,0,none⟩)) ((w1.setCell ⟨Fb,0,none⟩ (.func (.func (hFn k)) #[] (Iq bx k))).setCell ⟨Fb,1,none⟩ (.func (.func (JR k)) #[] #[])):=by
 have s1:=(s.grow h0).grow hb
 have hF1:=hF.below hb hF.lt
 have hne:bx≠Fb:=fun e=>by
  subst e
  rw[AB] at hF1 hBx
  rw[hF1] at hBx
  simp at hBx
 refine⟨Fb,bx,rfl,⟨(s1.m.far (by simp;omega) _).far (by simp;omega) _,(s1.x.far (by simp;omega) _).far (by simp;omega) _,(s1.p.far (by simp;omega) _).far (by simp;omega) _,(s1.f.far (by simp;omega) _).far (by simp;omega) _,(s1.b.setCell (by simp;omega) _).setCell (by simp;omega) _⟩,?_,(hBx.far hne _).far hne _⟩
 simpa using(hF1.set_ 0 (.func (.func (hFn k)) #[] (Iq bx k))).set_ 1 (.func (.func (JR k)) #[] #[])
theorem S4.size(w:World)(M X P F:Array Value):((((w.alloc (.cells M 29)).alloc (.cells X 51)).alloc (.cells P 56)).alloc (.cells F 109)).heap.size=w.heap.size+1+1+1+1:=by simp
theorem S4.kind (w:World) (M X P F:Array Value):AB (((((w.alloc (.cells M 29)).alloc (.cells X 51)).alloc (.cells P 56)).alloc (.cells F 109)).alloc (.cells #[.nilFunc,.nilFunc] 165)) (w.heap.size+1+1+1+1) 165 #[.nilFunc,.nilFunc]:=by
 have:=AB.new ((((w.alloc (.cells M 29)).alloc (.cells X 51)).alloc (.cells P 56)).alloc (.cells F 109)) 165 #[.nilFunc,.nilFunc]
 rwa [S4.size] at this
theorem RN (h:MH) (m:AC) (k:Nat) (hk:k<4) (x:AR) (hkd:x.kind=(k:Int)) (A:Option Addr) (c:Nat) (Ap:Option Addr) (cp:Nat) (p:AA) (f:Int×Int) (w:World) (C:Cond w h m x A Ap cp p) :
    Calls Tryz.prog 124 #[.agg #[.slice h.s m.sT.length h.sc,.slice h.f m.fT.length h.fc,.slice h.r m.rT.length h.rc,.slice h.m m.mT.length h.mc,.slice h.l m.lT.length h.lc,.slice h.i m.iT.length h.ic,.int .i64 m.dT,.int .i64 m.oT,.int .i64 m.vT,.int .i64 m.aT,.slice h.u m.uT.length h.uc],.agg #[.int .i64 x.kind,.int .i64 x.item,.int .i64 x.other,.int .i64 x.n,.int .i64 x.by_,.bool x.always,.slice A x.machines.length c],.agg #[.slice Ap p.length cp],.agg #[.int .i64 f.1,.int .i64 f.2]] w (Hu (D5 m x p) (Bf m x p f) w):=by
 have HC:=hide C
 have HKD:=hide hkd
 have HA:=hide (fun bx W (hW:Below w.heap.size w W) hB=>Qs k hk h m x hkd A c Ap cp p f bx W (C.grow hW) hB)
 have H0:=hide (S4.start w #[.slice h.s m.sT.length h.sc,.slice h.f m.fT.length h.fc,.slice h.r m.rT.length h.rc,.slice h.m m.mT.length h.mc,.slice h.l m.lT.length h.lc,.slice h.i m.iT.length h.ic,.int .i64 m.dT,.int .i64 m.oT,.int .i64 m.vT,.int .i64 m.aT,.slice h.u m.uT.length h.uc] #[.int .i64 x.kind,.int .i64 x.item,.int .i64 x.other,.int .i64 x.n,.int .i64 x.by_,.bool x.always,.slice A x.machines.length c] #[.slice Ap p.length cp] #[.int .i64 f.1,.int .i64 f.2])
 simp only[hkd] at HA H0 ⊢
 clear C hkd
 go_enter Tryz.func124,Tryz.ntmps124
 go_wp2_with fail
 go_cut [10,11] (fun v ok wx=>FJ w #[.slice h.s m.sT.length h.sc,.slice h.f m.fT.length h.fc,.slice h.r m.rT.length h.rc,.slice h.m m.mT.length h.mc,.slice h.l m.lT.length h.lc,.slice h.i m.iT.length h.ic,.int .i64 m.dT,.int .i64 m.oT,.int .i64 m.vT,.int .i64 m.aT,.slice h.u m.uT.length h.uc] #[.int .i64 (k:Int),.int .i64 x.item,.int .i64 x.other,.int .i64 x.n,.int .i64 x.by_,.bool x.always,.slice A x.machines.length c] #[.slice Ap p.length cp] #[.int .i64 f.1,.int .i64 f.2] k v wx∧ok=.bool true)
 case first =>
  go_region_held3 (fun W=>W.cell? ⟨w.heap.size+1,0,none⟩=some (.int .i64 (k:Int))) (first|(go_keep;done)|(with_reducible exact hc0)|exact(World.cell?_of_block (Below.heap_setCell _ _ _ _ (by simp <;> omega))).trans ((World.cell?_of_block (Below.heap_setCell _ _ _ _ (by simp <;> omega))).trans hc0)|exact(World.cell?_alloc_lt _ _ _ (by simp <;> omega)).trans hc0|exact H0.out.x.cell 0|exact(S4.grow H0.out ((Below.refl _ _).alloc (Nat.le_refl _) _)).drew.x.cell 0|exact(S4.grow H0.out.drew ((Below.refl _ _).alloc (Nat.le_refl _) _)).x.cell 0) ((go_at_call 122;refine(I1 _).mono ?_;rintro e w1 ⟨rfl,hF,hBx,hb⟩;have hlk:=Gh hF hk;have hlk2:=(fun o=>Gh (KG hF o) hk);have hc0:=(hb.cell (p:=⟨w.heap.size+1,0,none⟩) (by simp <;> omega)).trans (by first|exact H0.out.x.cell 0|exact(S4.grow H0.out ((Below.refl _ _).alloc (Nat.le_refl _) _)).drew.x.cell 0|exact(S4.grow H0.out.drew ((Below.refl _ _).alloc (Nat.le_refl _) _)).x.cell 0);(try simp at hc0);(try simp at hlk);(try simp at hlk2);clear hF;obtain⟨hcA,hfA⟩:=ET hb))
  all_goals
   go_wp2_with fail
   go_meet
   refine⟨?_,rfl⟩
   clear hcA hfA
   (try simp at hBx)
   first
    | exact FJ.soon H0.out.drew hb hBx
    | exact FJ.soon H0.out hb hBx
    | exact FJ.late H0.out (((Below.refl _ _).alloc (Nat.le_refl _) _).drew) (Nat.le_refl _) (S4.kind w _ _ _ _).drew hb hBx
    | exact FJ.late H0.out (((Below.refl _ _).alloc (Nat.le_refl _) _)) (Nat.le_refl _) (S4.kind w _ _ _ _) hb hBx
    | exact FJ.late H0.out.drew (((Below.refl _ _).alloc (Nat.le_refl _) _)) (Nat.le_refl _) (S4.kind w _ _ _ _) hb hBx
 case rest =>
  obtain⟨⟨Fb,bx,rfl,hS,hF,hBx⟩,rfl⟩:=hcut
  have HC2:=hide (HA.out bx _ hS.b hBx)
  have f0:=hF.cell 0
  have fl:=hF.lt
  simp at f0
  obtain⟨a0,a1,a2,a3,a4,a5,a6,a7,a8,a9,a10⟩:=MB.cells hS.m
  have b0:=hS.x.cell 0
  have b1:=hS.x.cell 1
  have b2:=hS.x.cell 2
  have b3:=hS.x.cell 3
  have b4:=hS.x.cell 4
  have b5:=hS.x.cell 5
  have b6:=hS.x.cell 6
  have d0:=hS.p.cell 0
  have e0:=hS.f.cell 0
  have e1:=hS.f.cell 1
  simp at b0 b1 b2 b3 b4 b5 b6 d0 e0 e1
  have ml:=hS.m.lt
  have xl:=hS.x.lt
  have pl:=hS.p.lt
  have fl2:=hS.f.lt
  have HB:=hide hS.b
  have heh:=TI k hk
  clear hS hF hBx
  go_wp2_with ((with_reducible refine Calls.mono HC2.out ?_);rintro e w3 ⟨rfl,hb3⟩;have HB3:=hide hb3;clear hb3)
  go_ret2
  exact⟨rfl,HB.out.trans (HB3.out.mono HB.out.size)⟩
end Go.Proofs.YtfemlajeomohhaaGreatDoor
