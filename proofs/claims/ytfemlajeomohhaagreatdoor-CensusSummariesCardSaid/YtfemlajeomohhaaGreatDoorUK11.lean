/- A part of the claim: see its last text. -/
import Derived.Test.YtfemlajeomohhaaGreatDoorUK10

set_option maxRecDepth 100000
set_option maxHeartbeats 16000000
namespace Go.Proofs.YtfemlajeomohhaaGreatDoor
open Go Go.RowKit Go.Proofs
def Bl(l:List Int):List AO:=l.map fun k=>(k,0)
theorem LV(l:List Int):(Bl l).length=l.length:=by simp[Bl]
theorem KH (l:List Int) {k:Nat} (hk:k<l.length):Bl (l.take k) ++ [(l[k],0)]=Bl (l.take (k+1)):=by
 rw[List.take_succ_eq_append_getElem hk]
 simp only[Bl,List.map_append,List.map_cons,List.map_nil]
theorem Ls (k:Int) (w:World):Calls Tryz.prog 62 #[.int .i64 k] w fun e w'=>e=.returned (.agg #[.int .i64 k,.int .i64 0])∧Below w.heap.size w w':=by
 have HB:=hide ((Below.refl w.heap.size w).alloc (Nat.le_refl _) (.cells #[.int .i64 k,.int .i64 0] 72))
 go_enter Tryz.func62,Tryz.ntmps62
 go_wp2_with fail
 refine bodyPost_ret (v:=.agg #[.int .i64 k,.int .i64 0]) (by simp[results,Tryz.results62,go_sem, *]) rfl ?_
 exact⟨rfl,HB.out⟩
def U5(w:World)(l:List AO)(e:Ending)(w':World):Prop:=∃ v,e=.returned v∧Ad w.heap.size w' v l∧Below w.heap.size w w'
theorem OE (A:Option Addr) (c:Nat) (l:List Int) (w:World) (h:Ints w w.heap.size A l) (hl:l.length≤1000) :
    Calls Tryz.prog 61 #[.slice A l.length c,.func (.func 62) #[] #[]] w (U5 w (Bl l)):=by
 have H0:=hide (Ad.nil_ w.heap.size w)
 go_enter Tryz.func61,Tryz.ntmps61
 go_wp2_with fail
 go_loopw [5,10] (fun v i wr=>∃ k:Nat,k≤l.length∧i=.int .i64 k∧Hid (Ad w.heap.size wr v (Bl (l.take k)))∧Below w.heap.size w wr) (fun _ i _=>l.length - (intOf i).toNat)
 case atStart=>exact⟨0,Nat.zero_le _,rfl,H0,Below.refl _ _⟩
 case round =>
  clear H0
  obtain⟨k,hk,rfl,hM,hbr⟩:=hrel
  by_cases hlt:k<l.length
  · obtain ⟨b,off,hA,hb,x0⟩:=Dy (h.grow hbr) hlt
    subst hA
    obtain⟨q,hq⟩:∃ q,q=Bl (l.take k):=⟨_,rfl⟩
    rw[← hq] at hM
    have hkl:q.length≤1000:=by rw[hq,LV];simp;omega
    have HT:=hide (KH l hlt)
    rw[← hq] at HT
    have HKL:=hide hkl
    have HC:=hide (Ls l[k] wr)
    clear hkl hq
    go_wp2_with (first
     | ((with_reducible refine Calls.mono HC.out ?_);rintro e w1 ⟨rfl,hb1⟩
        have HO1:=hide ((hM.out.keep (KT.below hb1)).keep (KT.alloc w1 (.cells #[.int .i64 l[k],.int .i64 0] 72)))
        have HR1:=hide (show Reads (w1.alloc (.cells #[.int .i64 l[k],.int .i64 0] 72)) (w1.heap.size+1) 2 (some ⟨w1.heap.size,0,none⟩) 1 (AL [(l[k],0)]) from⟨rfl,fun _=>⟨_,rfl,by simp,fun j u hu=>by rw[BA,Nat.zero_add,CZ];simpa[AL] using hu⟩⟩)
        have HB1:=hide hb1
        have HZ1:=hide (show w.heap.size≤(w1.alloc (.cells #[.int .i64 l[k],.int .i64 0] 72)).heap.size by have:=hbr.size;have:=hb1.size;simp;omega)
        have HL1:=hide (show q.length + [((l[k]:Int),(0:Int))].length≤1000000 by have:=HKL.out;simp;omega)
        clear hb1)
     | (at_builtin;refine Dn rfl _ _ rfl w.heap.size _ q rfl HO1.out (w1.heap.size+1) (some ⟨w1.heap.size,0,none⟩) 1 _ [(l[k],0)] rfl rfl HR1.out HL1.out HZ1.out ?_;intro v3 w3 ho3 hg3 _;have ho3:=hide ho3;have hg3:=hide hg3))
    have hb3:Below w.heap.size w w3:=((hbr.trans (HB1.out.mono hbr.size)).alloc (by have:=hbr.size;have:=HB1.out.size;omega) (.cells #[.int .i64 l[k],.int .i64 0] 72)).grown hg3.out (by have:=hbr.size;have:=HB1.out.size;simp;omega) (fun g hg=>(HO1.out.lt g hg).1)
    go_roundw
    case rel=>exact⟨k+1,by omega,by go_num,hide (by rw[← HT.out];exact ho3.out),hb3⟩
    case measure=>simp[intOf];omega
  · obtain rfl:k=l.length:=by omega
    have hM2:=hM.out
    rw[List.take_length] at hM2
    have HM:=hide hM2
    clear hM hM2
    go_wp2_with fail
    go_ret
    exact⟨_,rfl,HM.out,hbr⟩
theorem DY(m:AC):(Al m).length=m.iT.length:=by simp[Al]
theorem Mx (m:AC) (k:Nat) (hk:k<m.iT.length):(Al m).take k ++ [Bl m.iT[k].on]=(Al m).take (k+1):=by
 rw[List.take_succ_eq_append_getElem (by rw[DY];exact hk)]
 congr 2
 simp[Al,Bl]
structure Hw (m:AC) (h:MH) (w wr:World) (k:Nat) (A:Option Addr) (c:Nat):Prop where
 b:Below w.heap.size w wr
 bm:AB wr w.heap.size 29 #[.slice h.s m.sT.length h.sc,.slice h.f m.fT.length h.fc,.slice h.r m.rT.length h.rc,.slice h.m m.mT.length h.mc,.slice h.l m.lT.length h.lc,.slice h.i m.iT.length h.ic,.int .i64 m.dT,.int .i64 m.oT,.int .i64 m.vT,.int .i64 m.aT,.slice h.u m.uT.length h.uc]
 br:AB wr (w.heap.size+1) 56 #[.slice none 0 0]
 bx:AB wr (w.heap.size+1+1) 56 #[.slice A k c]
 op:OP (w.heap.size+3) wr (.slice A k c) ((Al m).take k)
theorem Hw.next {m:AC} {h:MH} {w wr W w1 w3:World} {k c c4:Nat} {A A4:Option Addr} {q:AA} {o:Obj} (s:Hw m h w wr k A c) (hbW:Below wr.heap.size wr W) (hb1:Below W.drew.heap.size W.drew w1)
    (hg:(w1.alloc o).grownBy w3 (Value.slice A k c).ownBlock) (ho:OP (w.heap.size+3) (w1.alloc o) (.slice A k c) q) (h3:OP (w.heap.size+3) w3 (.slice A4 (k+1) c4) ((Al m).take (k+1))) :
    Hw m h w (w3.setCell ⟨w.heap.size+1+1,0,none⟩ (.slice A4 (k+1) c4)) (k+1) A4 c4:=by
 have hbW1:Below wr.heap.size wr (w1.alloc o):=(hbW.drew.trans (hb1.mono hbW.size)).alloc (by have:=hbW.size;have:=hb1.size;simp at this;omega) o
 have hne:∀ g,g<w.heap.size+3→some g≠(Value.slice A k c).ownBlock:=fun g hgl e=>by have:=(ho.lt _ e.symm).1;omega
 have b3:∀ {g:Nat} {T:TypeId} {cs:Array Value},AB wr g T cs→g<w.heap.size+3→AB w3 g T cs:=fun hb hgl=>(hb.below hbW1 hb.lt).grown hg (hne _ hgl)
 have hx3:=b3 s.bx (by omega)
 refine⟨?_,(b3 s.bm (by omega)).far (by simp <;> omega) _,(b3 s.br (by omega)).far (by simp <;> omega) _,?_,?_⟩
 · refine(Below.grown (s.b.trans (hbW1.mono s.b.size)) hg (Nat.le_trans s.b.size hbW1.size) fun g e=>?_).setCell (by simp <;> omega) _
   have:=(ho.lt _ e).1
   omega
 · simpa using hx3.set_ 0 (.slice A4 (k+1) c4)
 · exact h3.keep (KT.set_ hx3 (by decide) 0 _) (KT.set_ hx3 (by decide) 0 _)
theorem GJ (h:MH) (m:AC) (w:World) (d:MD w w.heap.size h m) (hi:m.iT.length≤1000) (ho:∀ x∈m.iT,x.on.length≤1000) :
    Calls Tryz.prog 24 #[.agg #[.slice h.s m.sT.length h.sc,.slice h.f m.fT.length h.fc,.slice h.r m.rT.length h.rc,.slice h.m m.mT.length h.mc,.slice h.l m.lT.length h.lc,.slice h.i m.iT.length h.ic,.int .i64 m.dT,.int .i64 m.oT,.int .i64 m.vT,.int .i64 m.aT,.slice h.u m.uT.length h.uc]] w (BG w (Al m)):=by
 have H0:Hw m h w (((w.alloc (.cells #[.slice h.s m.sT.length h.sc,.slice h.f m.fT.length h.fc,.slice h.r m.rT.length h.rc,.slice h.m m.mT.length h.mc,.slice h.l m.lT.length h.lc,.slice h.i m.iT.length h.ic,.int .i64 m.dT,.int .i64 m.oT,.int .i64 m.vT,.int .i64 m.aT,.slice h.u m.uT.length h.uc] 29)).alloc (.cells #[.slice none 0 0] 56)).alloc (.cells #[.slice none 0 0] 56)) 0 none 0:=by
  refine⟨(((Below.refl w.heap.size w).alloc (Nat.le_refl _) _).alloc (by simp) _).alloc (by simp <;> omega) _,((AB.new w _ _).alloc _).alloc _,?_,?_,?_⟩
  · have:=(AB.new (w.alloc (.cells #[.slice h.s m.sT.length h.sc,.slice h.f m.fT.length h.fc,.slice h.r m.rT.length h.rc,.slice h.m m.mT.length h.mc,.slice h.l m.lT.length h.lc,.slice h.i m.iT.length h.ic,.int .i64 m.dT,.int .i64 m.oT,.int .i64 m.vT,.int .i64 m.aT,.slice h.u m.uT.length h.uc] 29)) 56 #[.slice none 0 0]).alloc (.cells #[.slice none 0 0] 56)
    simpa using this
  · have:=AB.new ((w.alloc (.cells #[.slice h.s m.sT.length h.sc,.slice h.f m.fT.length h.fc,.slice h.r m.rT.length h.rc,.slice h.m m.mT.length h.mc,.slice h.l m.lT.length h.lc,.slice h.i m.iT.length h.ic,.int .i64 m.dT,.int .i64 m.oT,.int .i64 m.vT,.int .i64 m.aT,.slice h.u m.uT.length h.uc] 29)).alloc (.cells #[.slice none 0 0] 56)) 56 #[.slice none 0 0]
    simpa using this
  · exact OP.nil_ _ _
 have HO:=hide ho
 have H0:=hide H0
 clear ho
 go_enter Tryz.func24,Tryz.ntmps24
 go_wp2_with fail
 go_loopw [9] (fun i wr=>∃ (k:Nat) (A:Option Addr) (c:Nat),k≤m.iT.length∧i=.int .i64 k∧Hid (Hw m h w wr k A c)) (fun i _=>m.iT.length - (intOf i).toNat)
 case atStart=>exact⟨0,none,0,Nat.zero_le _,rfl,H0⟩
 case round =>
  clear H0
  obtain⟨k,A,c,hk,rfl,hS⟩:=hrel
  by_cases hlt:k<m.iT.length
  · have hbr:=hS.out.b
    obtain⟨b,off,A2,c2,hA,hb,x0,x1,x2,x3,x4,x5,x6,hz,hlc,hcm,hI⟩:=(d.grow hbr).dI.item hlt
    rw[hA]
    have hon:m.iT[k].on.length≤1000:=HO.out _ (List.getElem_mem hlt)
    obtain⟨W,hW⟩:∃ W,W=wr.alloc (.cells #[.string m.iT[k].name,.int .i64 m.iT[k].kind,.int .i64 m.iT[k].count,.int .i64 m.iT[k].load,.int .i64 m.iT[k].size,.int .i64 m.iT[k].share,.slice A2 m.iT[k].on.length c2] 49):=⟨_,rfl⟩
    have hbW:Below wr.heap.size wr W:=by rw[hW];exact(Below.refl _ _).alloc (Nat.le_refl _) _
    have HM:=hide (OE A2 c2 m.iT[k].on W.drew (hI.grow hbW.drew) hon)
    have hbxW:AB W (w.heap.size+1+1) 56 #[.slice A k c]:=hS.out.bx.below hbW hS.out.bx.lt
    have hopW:OP (w.heap.size+3) W (.slice A k c) ((Al m).take k):=hS.out.op.below hbW
    have hxb:AB W wr.heap.size 49 #[.string m.iT[k].name,.int .i64 m.iT[k].kind,.int .i64 m.iT[k].count,.int .i64 m.iT[k].load,.int .i64 m.iT[k].size,.int .i64 m.iT[k].share,.slice A2 m.iT[k].on.length c2]:=by rw[hW];exact AB.new _ _ _
    have xb6:=hxb.cell 6
    have xbl:=hxb.lt
    simp at xb6
    have HBX:=hide hbxW
    have HBW:=hide hbW
    obtain⟨q,hq⟩:∃ q,q=(Al m).take k:=⟨_,rfl⟩
    have HL:=hide (show q.length=k by rw[hq];simp[DY];omega)
    rw[← hq] at hopW
    have HOP:=hide hopW
    have bx0:=hS.out.bx.cell 0
    have bxl:=hS.out.bx.lt
    have bxW0:=hbxW.cell 0
    have bxWl:=hbxW.lt
    simp at bx0 bxW0
    have HT:=hide (Mx m k hlt)
    rw[← hq] at HT
    have HWW:=hide hW
    clear hxb hI hbW hbxW hopW hbr hon hW hq
    go_wp2_with fail
    rw[← HWW.out]
    go_region_law
     ((first
       | (go_simp;go_at_call 61;refine HM.out.mono ?_;rintro e w1 ⟨v1,rfl,hO1,hb1⟩
          obtain⟨A3,c3,rfl,_⟩:=hO1.ut.form
          have hbx1:=HBX.out.drew.below hb1 HBX.out.lt
          have b10:=hbx1.cell 0
          have b1l:=hbx1.lt
          simp at b10
          have HBX1:=hide hbx1
          have HU1:=hide (hO1.ut.keep (KT.alloc w1 (.cells #[.slice A3 (Bl m.iT[k].on).length c3] 57)))
          have HOP1:=hide (((HOP.out.keep (KT.drew W) (KT.drew W)).below hb1).keep (KT.alloc w1 (.cells #[.slice A3 (Bl m.iT[k].on).length c3] 57)) (KT.alloc w1 (.cells #[.slice A3 (Bl m.iT[k].on).length c3] 57)))
          have HRD:=hide (Reads.newRow w1 #[.slice A3 (Bl m.iT[k].on).length c3] 57 1 1 rfl)
          have HB1:=hide hb1
          clear hbx1 hb1 hO1
          dsimp only)
       | (refine Gn rfl _ _ rfl (w.heap.size+3) (.slice A k c) q rfl HOP1.out _ _ 1 (.slice A3 (Bl m.iT[k].on).length c3) (Bl m.iT[k].on) rfl HRD.out HU1.out (by rw[HL.out];omega) (by simp;omega) ?_;intro v3 w3 ho3 hg3 hv3
          obtain⟨A4,c4,e4,_⟩:=ho3.pt.form
          rw[List.length_append,HL.out] at e4
          subst e4
          have hbx3:=(HBX1.out.alloc (.cells #[.slice A3 (Bl m.iT[k].on).length c3] 57)).grown hg3 (fun e=>by have:=(HOP1.out.lt _ e.symm).1;omega)
          have b30:=hbx3.cell 0
          have b3f:=hbx3.frozen 0
          have b3l:=hbx3.lt
          simp at b30
          have HG3:=hide hg3
          have HO3:=hide ho3
          have HBX3:=hide hbx3
          clear hbx3 hg3 ho3 hv3
          dsimp only)))
    all_goals
     have hN:=hide (hS.out.next HBW.out HB1.out HG3.out HOP1.out (by rw[← HT.out];exact HO3.out))
     go_wp2_with fail
     go_roundw
     case rel=>exact⟨k+1,A4,c4,by omega,by go_num,hN⟩
     case measure=>simp[intOf];omega
  · obtain rfl:k=m.iT.length:=by omega
    have x0:=hS.out.bx.cell 0
    have xl:=hS.out.bx.lt
    have r0:=hS.out.br.cell 0
    have rf:=hS.out.br.frozen 0
    have rl:=hS.out.br.lt
    simp at x0 r0
    go_wp2_with fail
    refine bodyPost_ret (v:=.agg #[.slice A m.iT.length c]) (by simp[results,Tryz.results24,go_sem, *]) rfl ?_
    have hop:=hS.out.op.pt
    rw[List.take_of_length_le (by rw[DY];exact Nat.le_refl _)] at hop
    refine⟨A,c,by rw[DY],by rw[DY];exact hop.keep (KT.set_ hS.out.br (by decide) 0 _) (KT.set_ hS.out.br (by decide) 0 _),hS.out.b.setCell (by simp) _⟩
def AX(m:AC)(l:List EvM)(k:Nat):AA:=(l.take k).foldl (DI m) (Al m)
theorem I8(m:AC)(l:List EvM):AX m l 0=Al m:=rfl
theorem Cz (m:AC) (l:List EvM) {k:Nat} (hk:k<l.length):AX m l (k+1)=DI m (AX m l k) l[k]:=by
 unfold AX
 rw[List.take_succ_eq_append_getElem hk,List.foldl_append];rfl
theorem Room.init {m:AC} (hi:m.iT.length≤1000) (ho:∀ x∈m.iT,x.on.length≤100):Room 100 (Al m):=by
 refine⟨by simpa[Al] using hi,fun l hl=>?_⟩
 simp only[Al,List.mem_map] at hl
 obtain⟨x,hx,rfl⟩:=hl
 simpa using ho x hx
theorem Room.step {n:Nat} {p:AA} (h:Room n p) (m:AC) (x:EvM) (ho:x.old.length≤10):Room (n+11) (DI m p x):=by
 unfold DI
 split
 · exact(h.after m x).mono (by omega)
 · exact h.mono (by omega)
theorem Room.placeAt {m:AC} {l:List EvM} (hi:m.iT.length≤1000) (ho:∀ x∈m.iT,x.on.length≤100) (hl:∀ x∈l,x.old.length≤10) (k:Nat):Room (100+11*k) (AX m l k):=by
 induction k with
 | zero=>exact Room.init hi ho
 | succ k ih =>
   by_cases hk:k<l.length
   · rw[Cz m l hk]
     exact(ih.step m _ (hl _ (List.getElem_mem hk))).mono (by omega)
   · have:Go.Proofs.YtfemlajeomohhaaGreatDoor.AX m l (k+1)=Go.Proofs.YtfemlajeomohhaaGreatDoor.AX m l k:=by
       unfold Go.Proofs.YtfemlajeomohhaaGreatDoor.AX
       rw[List.take_of_length_le (by omega),List.take_of_length_le (by omega)]
     rw[this]
     exact ih.mono (by omega)
theorem UZ{m:AC}{l:List EvM}(hi:m.iT.length≤1000)(ho:∀ x∈m.iT,x.on.length≤100)(hl:l.length≤60)(hold:∀ x∈l,x.old.length≤10)(k:Nat)(hk:k≤l.length):Room 800 (AX m l k):=(Room.placeAt hi ho hold k).mono (by omega)
structure Bb (B0 bp:Nat) (wr w':World):Prop where
 b:Below B0 wr w'
 km:KT 29 wr w'
 ku:KT 72 wr w'
 kr:KT 57 wr w'
 kp:∀ cs,AB wr bp 56 cs→AB w' bp 56 cs
theorem Bb.refl(B0 bp:Nat)(w:World):Bb B0 bp w w:=⟨Below.refl _ _,KT.refl _ _,KT.refl _ _,KT.refl _ _,fun _ h=>h⟩
structure Am (g:Nat) (w w':World):Prop where
 os:w'.os=w.os
 tape:w'.tape=w.tape
 output:w'.output=w.output
 size:w.heap.size≤w'.heap.size
 block:∀ k,k<w.heap.size→k≠g→w'.heap[k]? = w.heap[k]?
theorem Am.trans {g:Nat} {a b c:World} (h:Am g a b) (k:Am g b c):Am g a c :=
 ⟨k.os.trans h.os,k.tape.trans h.tape,k.output.trans h.output,Nat.le_trans h.size k.size,fun i hi hn=>(k.block i (Nat.lt_of_lt_of_le hi h.size) hn).trans (h.block i hi hn)⟩
theorem Am.below{g:Nat}{w w':World}(h:Below w.heap.size w w'):Am g w w':=⟨h.os,h.tape,h.output,h.size,fun k hk _=>h.block k hk⟩
theorem Am.set_ {g:Nat} (w:World) (i:Nat) (u:Value):Am g w (w.setCell ⟨g,i,none⟩ u) :=
 ⟨rfl,rfl,rfl,by simp,fun k _ hn=>Below.heap_setCell w ⟨g,i,none⟩ u k (fun e=>hn e)⟩
theorem Am.toBelow{g B:Nat}{w w':World}(h:Am g w w')(hB:B≤g)(hw:B≤w.heap.size):Below B w w':=⟨h.os,h.tape,h.output,h.size,fun k hk=>h.block k (by omega) (by omega)⟩
theorem Am.blk{g b:Nat}{w w':World}{t:TypeId}{cs:Array Value}(h:Am g w w')(hB:AB w b t cs)(hn:b≠g):AB w' b t cs:=(h.block b hB.lt hn).trans hB
theorem Am.kt {g:Nat} {w w':World} {T T':TypeId} {cs:Array Value} (h:Am g w w') (hb:AB w g T' cs) (hne:T≠T'):KT T w w':=by
 refine⟨h.size,fun b cur hB=>h.blk hB fun e=>?_⟩
 subst e
 rw[AB] at hb hB
 rw[hb] at hB
 simp at hB
 exact hne hB.2.symm
structure FL (B0 bm bp:Nat) (w:World) (h:MH) (m:AC) (wr:World) (q:AA):Prop where
 b:Below B0 w wr
 bm:AB wr bm 29 #[.slice h.s m.sT.length h.sc,.slice h.f m.fT.length h.fc,.slice h.r m.rT.length h.rc,.slice h.m m.mT.length h.mc,.slice h.l m.lT.length h.lc,.slice h.i m.iT.length h.ic,.int .i64 m.dT,.int .i64 m.oT,.int .i64 m.vT,.int .i64 m.aT,.slice h.u m.uT.length h.uc]
 bp:∃ A c,AB wr bp 56 #[.slice A q.length c]∧PT wr (.slice A q.length c) q
theorem FL.grow {B0 bm bp:Nat} {w wr w1:World} {h:MH} {m:AC} {q:AA} (s:FL B0 bm bp w h m wr q) (hB:B0≤wr.heap.size) (hb:Below wr.heap.size wr w1):FL B0 bm bp w h m w1 q:=by
 obtain⟨A0,c0,h0,hP⟩:=s.bp
 exact⟨s.b.trans (hb.mono hB),s.bm.below hb s.bm.lt,A0,c0,h0.below hb h0.lt,hP.below hb⟩
theorem FL.next {B0 bm bp:Nat} {w wr w1:World} {h:MH} {m:AC} {q q':AA} {A:Option Addr} {c:Nat} (s:FL B0 bm bp w h m wr q) (hB:B0≤wr.heap.size) (hBp:B0≤bp) (hb:Below wr.heap.size wr w1) (hp:PT w1 (.slice A q'.length c) q') :
    FL B0 bm bp w h m (w1.setCell ⟨bp,0,none⟩ (.slice A q'.length c)) q':=by
 obtain⟨A0,c0,h0,_⟩:=s.bp
 have h1:=h0.below hb h0.lt
 refine⟨(s.b.trans (hb.mono hB)).setCell (by simpa using hBp) _,(s.bm.below hb s.bm.lt).far (fun e=>?_) _,A,c,by simpa using h1.set_ 0 (.slice A q'.length c),hp.keep (KT.set_ h1 (by decide) 0 _) (KT.set_ h1 (by decide) 0 _)⟩
 have h2:=s.bm.below hb s.bm.lt
 simp only at e
 subst e
 rw[AB] at h1 h2
 rw[h1] at h2
 simp at h2
theorem FL.visited {B0 bm bp:Nat} {w wr w1:World} {h:MH} {m:AC} {q:AA} (s:FL B0 bm bp w h m wr q) (v:Bb B0 bp wr w1):FL B0 bm bp w h m w1 q:=by
 obtain⟨A0,c0,h0,hP⟩:=s.bp
 exact⟨s.b.trans v.b,v.km.2 _ _ s.bm,A0,c0,v.kp _ h0,hP.keep v.ku v.kr⟩
def Ia(Q:World→Prop)(e:Ending)(w':World):Prop:=e=.returned (.tuple #[])∧Q w'
def Ud (B0 bm bp:Nat) (w:World) (h:MH) (m:AC) (l:List EvM) (Inv:Nat→Nat→World→Prop) (i:Value) (wr:World):Prop :=
 ∃ k:Nat,k≤l.length∧i=.int .i64 k∧FL B0 bm bp w h m wr (AX m l k)∧Inv bp k wr
theorem Ld (g:Nat) (lb:Array Value) (eg:∀ args w,(callFunc g args).run Tryz.prog w=.ok (.enter g args) w) (Inv:Nat→Nat→World→Prop) (h:MH) (m:AC) (l:List EvM) (A:Option Addr) (c B0:Nat) (w:World)
    (hB0:B0≤w.heap.size) (d:MD w B0 h m) (hE:Rows BD 22 w B0 A l) (hi:m.iT.length≤100) (hm:m.mT.length≤100) (hon:∀ x∈m.iT,x.on.length≤100) (hl:l.length≤1000) (hroom:∀ k,k≤l.length→Room 800 (AX m l k)) (hold:∀ x∈l,x.old.length≤10)
    (hstart:∀ bp W,Below w.heap.size w W→w.heap.size≤bp→bp<W.heap.size→Inv bp 0 W)
    (hmove:∀ bp i W W',w.heap.size≤bp→(∃ cs,AB W bp 56 cs)→Am bp W W'→Inv bp i W→Inv bp i W')
    (hvisit:∀ bp i (_:i<l.length) W A' c',Inv bp i W→w.heap.size≤bp→bp<W.heap.size→Below B0 w W→PT W (.slice A' (AX m l (i+1)).length c') (AX m l (i+1)) →
      Calls Tryz.prog g (#[.int .i64 i,.agg #[.slice A' (AX m l (i+1)).length c'],.bool (Ah m l[i])]++lb) W (Ia fun W'=>Inv bp (i+1) W'∧Bb B0 bp W W')) :
    Calls Tryz.prog 25 #[.agg #[.slice h.s m.sT.length h.sc,.slice h.f m.fT.length h.fc,.slice h.r m.rT.length h.rc,.slice h.m m.mT.length h.mc,.slice h.l m.lT.length h.lc,.slice h.i m.iT.length h.ic,.int .i64 m.dT,.int .i64 m.oT,.int .i64 m.vT,.int .i64 m.aT,.slice h.u m.uT.length h.uc],.slice A l.length c,.func (.func g) #[] lb] w (Ia fun w'=>∃ bp,w.heap.size≤bp∧Inv bp l.length w'):=by
 have HV:=hide hvisit
 have HM:=hide hmove
 have HS:=hide hstart
 have hb0:=(Below.refl w.heap.size w).alloc (Nat.le_refl _) (.cells #[.slice h.s m.sT.length h.sc,.slice h.f m.fT.length h.fc,.slice h.r m.rT.length h.rc,.slice h.m m.mT.length h.mc,.slice h.l m.lT.length h.lc,.slice h.i m.iT.length h.ic,.int .i64 m.dT,.int .i64 m.oT,.int .i64 m.vT,.int .i64 m.aT,.slice h.u m.uT.length h.uc] 29)
 have HI:=hide (GJ h m (w.alloc (.cells #[.slice h.s m.sT.length h.sc,.slice h.f m.fT.length h.fc,.slice h.r m.rT.length h.rc,.slice h.m m.mT.length h.mc,.slice h.l m.lT.length h.lc,.slice h.i m.iT.length h.ic,.int .i64 m.dT,.int .i64 m.oT,.int .i64 m.vT,.int .i64 m.aT,.slice h.u m.uT.length h.uc] 29)) ((d.more hB0).grow hb0) (by omega) (fun x hx=>by have:=hon x hx;omega))
 have HB:=hide hb0
 have HBM:=hide (AB.new w 29 #[.slice h.s m.sT.length h.sc,.slice h.f m.fT.length h.fc,.slice h.r m.rT.length h.rc,.slice h.m m.mT.length h.mc,.slice h.l m.lT.length h.lc,.slice h.i m.iT.length h.ic,.int .i64 m.dT,.int .i64 m.oT,.int .i64 m.vT,.int .i64 m.aT,.slice h.u m.uT.length h.uc])
 have HD:=hide (fun W (hb:Below B0 w W)=>(d.below hb).more (Nat.le_trans hB0 hb.size))
 have HRw:=hide hE
 have HR:=hide hroom
 have HO:=hide hold
 have hll:=hl
 have hmm:=hm
 clear hvisit hmove hstart hb0 d hE hon hold hl hm hroom
 go_enter Tryz.func25,Tryz.ntmps25
 go_wp2_with (go_at_call 24;refine HI.out.mono ?_;rintro e w1 ⟨A1,c1,rfl,hp1,hb1⟩;have HP1:=hide hp1;have HB1:=hide hb1;clear hp1 hb1)
 have hz1:w.heap.size+1≤w1.heap.size:=by have:=HB1.out.size;simp at this;omega
 go_loopw [14] (fun i wr=>Ud B0 w.heap.size w1.heap.size w h m l Inv i wr) (fun i _=>l.length - (intOf i).toNat)
 case atStart =>
  have hbx:Below w.heap.size w (w1.alloc (.cells #[.slice A1 (Al m).length c1] 56)):=(HB.out.trans (HB1.out.mono HB.out.size)).alloc (by omega) _
  have hb1:Below w1.heap.size w1 (w1.alloc (.cells #[.slice A1 (Al m).length c1] 56)):=(Below.refl _ _).alloc (Nat.le_refl _) _
  refine⟨0,Nat.zero_le _,rfl,⟨hbx.mono hB0,(HBM.out.below HB1.out (by simp)).alloc _,A1,c1,?_,?_⟩,HS.out _ _ hbx (by omega) (by simp)⟩
  · rw[I8];exact AB.new _ _ _
  · rw[I8];exact HP1.out.below hb1
 case round =>
  obtain⟨k,hk,rfl,hS,hI⟩:=hrel
  have hS:=hide hS
  have hI:=hide hI
  have hzr:=hS.out.b.size
  obtain⟨A2,c2,hB2,hP2⟩:=hS.out.bp
  have hHP2:=hide hP2
  have HBX:=hide hB2
  have x0:=hB2.cell 0
  have xl:=hB2.lt
  obtain⟨a0,a1,a2,a3,a4,a5,a6,a7,a8,a9,a10⟩:=MB.cells hS.out.bm
  have al:=hS.out.bm.lt
  simp at x0
  clear hB2 hP2
  by_cases hlt:k<l.length
  · obtain ⟨x,hx⟩:∃ x,l[k]=x:=⟨_,rfl⟩
    obtain⟨b,off,j,hA,hb,ho1,ho2,hoI,hc⟩:=(HRw.out.below hS.out.b).evRange hlt hx
    have hxo:x.old.length≤10:=by rw[← hx];exact HO.out _ (List.getElem_mem hlt)
    have HCR:=hide hc
    subst hA
    have HJ:=hide (And.intro hoI (And.intro ho1 ho2))
    have hx2:=hx
    clear hc hoI ho1 ho2 hx hb
    have HX:=hide hx2
    have hbe:=(Below.refl wr.heap.size wr).alloc (Nat.le_refl _) (.cells #[.int .i64 x.kind,.int .i64 x.mach,.int .i64 j.v2,.int .i64 j.v3,.int .i64 x.group,.int .i64 j.v5,.string j.v6,.int .i64 j.v7,.int .i64 j.v8,.int .i64 j.v9,.bool j.v10,.int .i64 j.v11,.slice j.A x.old.length j.c,.slice j.A13 j.n13 j.c13,.slice j.A14 j.n14 j.c14,.int .i64 x.hitem,.int .i64 j.v16,.int .i64 x.hstate,.int .i64 j.v18,.int .i64 j.v19,.bool x.gone,.int .i64 x.outcome] 85)
    have hBr:B0≤wr.heap.size:=by omega
    have hSe:=hS.out.grow hBr hbe
    have HSe:=hide hSe
    have HC:=hide (Nb h m x j _ (HD.out _ hSe.b))
    have hBp:B0≤w1.heap.size:=by omega
    have hplace:=Cz m l hlt
    rw[hx2] at hplace
    have hvis:=HV.out w1.heap.size k hlt
    rw[hx2] at hvis
    have hrm:=HR.out k (by omega)
    have HRM:=hide hrm
    have hbesE:Am w1.heap.size wr (wr.alloc (.cells #[.int .i64 x.kind,.int .i64 x.mach,.int .i64 j.v2,.int .i64 j.v3,.int .i64 x.group,.int .i64 j.v5,.string j.v6,.int .i64 j.v7,.int .i64 j.v8,.int .i64 j.v9,.bool j.v10,.int .i64 j.v11,.slice j.A x.old.length j.c,.slice j.A13 j.n13 j.c13,.slice j.A14 j.n14 j.c14,.int .i64 x.hitem,.int .i64 j.v16,.int .i64 x.hstate,.int .i64 j.v18,.int .i64 j.v19,.bool x.gone,.int .i64 x.outcome] 85)):=Am.below hbe
    have HBE:=hide hbe
    clear hbe hSe hrm
    cases hcb:Ah m x
    · rw [DI,hcb,if_neg (by decide)] at hplace
      rw[hplace,hcb] at hvis
      have HVI:=hide hvis
      have HPL:=hide hplace
      have HBS:=hide hbesE
      clear hvis hplace hbesE
      go_wp2_with (first
       | (refine wpList_load_mid (op:=⟨some 18,_,_,_,_,_⟩) rfl 85 _ rfl b (off+k*22) rfl [.int .i64 x.kind,.int .i64 x.mach,.int .i64 j.v2,.int .i64 j.v3,.int .i64 x.group,.int .i64 j.v5,.string j.v6,.int .i64 j.v7,.int .i64 j.v8,.int .i64 j.v9,.bool j.v10,.int .i64 j.v11,.slice j.A x.old.length j.c,.slice j.A13 j.n13 j.c13,.slice j.A14 j.n14 j.c14,.int .i64 x.hitem,.int .i64 j.v16,.int .i64 x.hstate,.int .i64 j.v18,.int .i64 j.v19,.bool x.gone,.int .i64 x.outcome] _ HCR.out Tryz.underlying85 rfl Ck ?_)
       | (refine wpList_store_row (o:=⟨none,.store 85 _ _,_,_,_,_⟩) rfl 85 _ _ rfl wr.heap.size #[.int .i64 x.kind,.int .i64 x.mach,.int .i64 j.v2,.int .i64 j.v3,.int .i64 x.group,.int .i64 j.v5,.string j.v6,.int .i64 j.v7,.int .i64 j.v8,.int .i64 j.v9,.bool j.v10,.int .i64 j.v11,.slice j.A x.old.length j.c,.slice j.A13 j.n13 j.c13,.slice j.A14 j.n14 j.c14,.int .i64 x.hitem,.int .i64 j.v16,.int .i64 x.hstate,.int .i64 j.v18,.int .i64 j.v19,.bool x.gone,.int .i64 x.outcome] rfl rfl 85 _ (heap_alloc_last wr _) Ck rfl (J9 x j) ?_;rw[World.setRow_alloc_new])
       | (refine wpList_load_row (o:=⟨some 20,_,_,_,_,_⟩) rfl 85 _ rfl wr.heap.size rfl 85 #[.int .i64 x.kind,.int .i64 x.mach,.int .i64 j.v2,.int .i64 j.v3,.int .i64 x.group,.int .i64 j.v5,.string j.v6,.int .i64 j.v7,.int .i64 j.v8,.int .i64 j.v9,.bool j.v10,.int .i64 j.v11,.slice j.A x.old.length j.c,.slice j.A13 j.n13 j.c13,.slice j.A14 j.n14 j.c14,.int .i64 x.hitem,.int .i64 j.v16,.int .i64 x.hstate,.int .i64 j.v18,.int .i64 j.v19,.bool x.gone,.int .i64 x.outcome] (0,0) _ (heap_alloc_last wr _) Tryz.underlying85 rfl Ck ?_)
       | (go_at_call 63;refine HC.out.mono ?_;rintro e w2 ⟨rfl,hb2⟩
          have HS2:=hide (HSe.out.grow (by simp;omega) hb2)
          obtain⟨A3,c3,hB3,hP3⟩:=HS2.out.bp
          have y0:=hB3.cell 0
          have yl:=hB3.lt
          simp at y0
          have hbs2:=HBS.out.trans (Am.below hb2)
          have HVk:=hide (HVI.out w2 A3 c3 (HM.out _ _ _ _ (by omega) ⟨_,HBX.out⟩ hbs2 hI.out) (by omega) yl HS2.out.b hP3)
          clear hb2 hB3 hP3 hbs2)
       | ((with_reducible refine Calls.mono HVk.out ?_);rintro e w3 ⟨rfl,hInv,hVis⟩
          have HN:=hide (And.intro (HS2.out.visited hVis) hInv)
          clear hInv hVis))
      go_roundw
      case rel=>exact⟨k+1,by omega,by go_num,by rw[HPL.out];exact HN.out.1,HN.out.2⟩
      case measure=>simp[intOf];omega
    · rw [DI,hcb,if_pos rfl] at hplace
      rw[hplace,hcb] at hvis
      obtain⟨q',hq'⟩:∃ q',q'=Ac m (AX m l k) x:=⟨_,rfl⟩
      rw[← hq'] at hvis hplace
      have HQ:=hide hq'
      clear hq'
      have HVI:=hide hvis
      have HPL:=hide hplace
      have HBS:=hide hbesE
      clear hvis hplace hbesE
      go_wp2_with (first
       | (refine wpList_load_mid (op:=⟨some 18,_,_,_,_,_⟩) rfl 85 _ rfl b (off+k*22) rfl [.int .i64 x.kind,.int .i64 x.mach,.int .i64 j.v2,.int .i64 j.v3,.int .i64 x.group,.int .i64 j.v5,.string j.v6,.int .i64 j.v7,.int .i64 j.v8,.int .i64 j.v9,.bool j.v10,.int .i64 j.v11,.slice j.A x.old.length j.c,.slice j.A13 j.n13 j.c13,.slice j.A14 j.n14 j.c14,.int .i64 x.hitem,.int .i64 j.v16,.int .i64 x.hstate,.int .i64 j.v18,.int .i64 j.v19,.bool x.gone,.int .i64 x.outcome] _ HCR.out Tryz.underlying85 rfl Ck ?_)
       | (refine wpList_store_row (o:=⟨none,.store 85 _ _,_,_,_,_⟩) rfl 85 _ _ rfl wr.heap.size #[.int .i64 x.kind,.int .i64 x.mach,.int .i64 j.v2,.int .i64 j.v3,.int .i64 x.group,.int .i64 j.v5,.string j.v6,.int .i64 j.v7,.int .i64 j.v8,.int .i64 j.v9,.bool j.v10,.int .i64 j.v11,.slice j.A x.old.length j.c,.slice j.A13 j.n13 j.c13,.slice j.A14 j.n14 j.c14,.int .i64 x.hitem,.int .i64 j.v16,.int .i64 x.hstate,.int .i64 j.v18,.int .i64 j.v19,.bool x.gone,.int .i64 x.outcome] rfl rfl 85 _ (heap_alloc_last wr _) Ck rfl (J9 x j) ?_;rw[World.setRow_alloc_new])
       | (refine wpList_load_row (o:=⟨some 20,_,_,_,_,_⟩) rfl 85 _ rfl wr.heap.size rfl 85 #[.int .i64 x.kind,.int .i64 x.mach,.int .i64 j.v2,.int .i64 j.v3,.int .i64 x.group,.int .i64 j.v5,.string j.v6,.int .i64 j.v7,.int .i64 j.v8,.int .i64 j.v9,.bool j.v10,.int .i64 j.v11,.slice j.A x.old.length j.c,.slice j.A13 j.n13 j.c13,.slice j.A14 j.n14 j.c14,.int .i64 x.hitem,.int .i64 j.v16,.int .i64 x.hstate,.int .i64 j.v18,.int .i64 j.v19,.bool x.gone,.int .i64 x.outcome] (0,0) _ (heap_alloc_last wr _) Tryz.underlying85 rfl Ck ?_)
       | (go_at_call 63;refine HC.out.mono ?_;rintro e w2 ⟨rfl,hb2⟩
          have HS2:=hide (HSe.out.grow (by simp;omega) hb2)
          obtain⟨A3,c3,hB3,hP3⟩:=HS2.out.bp
          have y0:=hB3.cell 0
          have yl:=hB3.lt
          simp at y0
          have hev2:=(AB.new wr 85 #[.int .i64 x.kind,.int .i64 x.mach,.int .i64 j.v2,.int .i64 j.v3,.int .i64 x.group,.int .i64 j.v5,.string j.v6,.int .i64 j.v7,.int .i64 j.v8,.int .i64 j.v9,.bool j.v10,.int .i64 j.v11,.slice j.A x.old.length j.c,.slice j.A13 j.n13 j.c13,.slice j.A14 j.n14 j.c14,.int .i64 x.hitem,.int .i64 j.v16,.int .i64 x.hstate,.int .i64 j.v18,.int .i64 j.v19,.bool x.gone,.int .i64 x.outcome]).below hb2 (by simp)
          have HEV2:=hide hev2
          have evl:=hev2.lt
          obtain⟨m0,m1,m2,m3,m4,m5,m6,m7,m8,m9,m10⟩:=MB.cells HS2.out.bm
          have ml:=HS2.out.bm.lt
          have hbs2:=HBS.out.trans (Am.below hb2)
          have HBS2:=hide hbs2
          have HA:=hide (O6 h m x j A3 c3 (AX m l k) w2 (HD.out w2 HS2.out.b) hmm (by omega) (((HJ.out.1.more hBr).below (HBE.out.trans (hb2.mono (by simp)))).more (by have:=hb2.size;simp at this;omega)) hP3 HRM.out)
          rw[← HQ.out] at HA
          have HB3:=hide hB3
          clear hb2 hB3 hP3 hbs2 hev2)
       | (refine wpList_load_row (o:=⟨some 25,_,_,_,_,_⟩) rfl 85 _ rfl wr.heap.size rfl 85 #[.int .i64 x.kind,.int .i64 x.mach,.int .i64 j.v2,.int .i64 j.v3,.int .i64 x.group,.int .i64 j.v5,.string j.v6,.int .i64 j.v7,.int .i64 j.v8,.int .i64 j.v9,.bool j.v10,.int .i64 j.v11,.slice j.A x.old.length j.c,.slice j.A13 j.n13 j.c13,.slice j.A14 j.n14 j.c14,.int .i64 x.hitem,.int .i64 j.v16,.int .i64 x.hstate,.int .i64 j.v18,.int .i64 j.v19,.bool x.gone,.int .i64 x.outcome] (0,0) _ HEV2.out Tryz.underlying85 rfl Ck ?_)
       | (go_at_call 64;refine HA.out.mono ?_;rintro e w4 ⟨A4,c4,rfl,hp4,hb4⟩
          have hb04:=HB3.out.below hb4 HB3.out.lt
          have y40:=hb04.cell 0
          have y4f:=hb04.frozen 0
          have y4l:=hb04.lt
          simp at y40
          have HS4:=hide (HS2.out.next (by omega) hBp hb4 hp4)
          have hbs4:=(HBS2.out.trans (Am.below hb4)).trans (Am.set_ w4 0 (.slice A4 q'.length c4))
          have HVk:=hide (HVI.out _ A4 c4 (HM.out _ _ _ _ (by omega) ⟨_,HBX.out⟩ hbs4 hI.out) (by omega) (by simpa using y4l) HS4.out.b (hp4.keep (KT.set_ hb04 (by decide) 0 _) (KT.set_ hb04 (by decide) 0 _)))
          clear hb4 hp4 hb04 hbs4)
       | ((with_reducible refine Calls.mono HVk.out ?_);rintro e w3 ⟨rfl,hInv,hVis⟩
          have HN:=hide (And.intro (HS4.out.visited hVis) hInv)
          clear hInv hVis))
      go_roundw
      case rel=>exact⟨k+1,by omega,by go_num,by rw[HPL.out];exact HN.out.1,HN.out.2⟩
      case measure=>simp[intOf];omega
  · obtain rfl:k=l.length:=by omega
    go_wp2_with fail
    go_end0
    exact⟨rfl,w1.heap.size,by omega,hI.out⟩
end Go.Proofs.YtfemlajeomohhaaGreatDoor
