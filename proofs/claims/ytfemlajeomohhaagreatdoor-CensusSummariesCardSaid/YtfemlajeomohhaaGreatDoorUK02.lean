/- A part of the claim: see its last text. -/
import Derived.Test.YtfemlajeomohhaaGreatDoorUK01
import Derived.Lib.AppendIntMem
import Derived.IntWalk

set_option maxRecDepth 100000
set_option maxHeartbeats 16000000
namespace Go.Proofs.YtfemlajeomohhaaGreatDoor
open Go Go.RowKit Go.Proofs
def Asc (w : World) : Prop := Lib.TabIs Tryz.prog w "strings.asciiSpace" .u8 Lib.asciiSpaceTab
theorem Jj {P:Program} {n:String} {g B:Nat} {k:IntKind} {zs:List Int} {w w':World} (hg:P.globalNamed n=some g) (h:Lib.TabIs P w n k zs) (hB:g<B) (hb:Below B w w'):Lib.TabIs P w' n k zs:=by
 unfold Lib.TabIs World.var? at h ⊢
 rw[hg] at h ⊢
 simp only[Option.bind_some] at h ⊢
 rw[hb.block g hB]
 exact h
theorem NL {P:Program} {n:String} {g:Nat} {k:IntKind} {zs:List Int} {w:World} (hg:P.globalNamed n=some g) (h:Lib.TabIs P w n k zs):g<w.heap.size:=by
 unfold Lib.TabIs World.var? at h
 rw[hg] at h
 simp only[Option.bind_some] at h
 rcases Nat.lt_or_ge g w.heap.size with h'|h'
 · exact h'
 · rw[Array.getElem?_eq_none h'] at h;cases h
theorem Asc.below {w w':World} {B:Nat} (h:Asc w) (hB:w.heap.size≤B) (hb:Below B w w'):Asc w' :=
 have hg : Tryz.prog.globalNamed "strings.asciiSpace" = some 0 := by kernel_rfl
 Jj hg h (Nat.lt_of_lt_of_le (NL hg h) hB) hb
def I4:ByteArray:=(⟨#[97,108,119,97,121,115,32,98,101,102,111,114,101,32,98,121,32,99,97,112,97,99,105,116,121,32,100,97,114,107,32,100,105,115,116,117,114,98,32,102,97,105,108,117,114,101,115,32,102,101,101,100,32,103,114,111,117,112,32,105,110,32,106,111,98,32,107,101,101,112,32,108,105,110,107,32,108,111,97,100,32,109,97,99,104,105,110,101,32,111,110,32,111,110,108,121,32,111,114,100,101,114,32,112,111,111,108,32,113,117,111,114,117,109,32,114,97,99,107,32,114,101,115,101,114,118,101,32,115,104,97,114,101,32,115,105,108,101,110,99,101,32,115,105,116,101,32,115,105,122,101,32,115,108,111,116,115,32,115,112,114,101,97,100]⟩:ByteArray)
theorem Qx:(Lib.fields I4.data.toList).map (fun l=>Value.string ⟨l.toArray⟩)=BX.map Value.string:=by kernel_rfl
theorem UH:(Lib.fields I4.data.toList).length=BX.length:=by kernel_rfl
theorem Ry:I4.data.toList.all (fun b=>decide (b.toNat<128))=true:=by kernel_rfl
theorem TR:I4.size<4294967281:=by decide +kernel
theorem Lu (w:World) (ha:Asc w):Calls Tryz.prog 108 #[] w fun e w'=>e=.returned (.slice (some ⟨w.heap.size,0,none⟩) BX.length BX.length)∧Strs w' w'.heap.size (some ⟨w.heap.size,0,none⟩) BX∧Below w.heap.size w w':=by
 have hf:=Tryz.strings_Fields I4 w TR (fun j b h=>by
  have:=List.all_eq_true.1 Ry b (List.mem_of_getElem? h)
  simpa using this) ha
 rw[Qx,UH] at hf
 have HF:=hide hf;clear hf
 go_enter Tryz.func108,Tryz.ntmps108
 go_wp2_with fail
 refine Calls.mono (HF.out) ?_
 rintro e w' ⟨rfl,rfl⟩
 go_wp2_with fail
 go_ret
 exact⟨rfl,(Strs.newRow w 9 BX).more (by simp),(Below.refl _ _).alloc (Nat.le_refl _) _⟩
def Fe(c:Int):Bool:=!Ci c
theorem R6 (c:Int) (w:World):Calls Tryz.prog 105 #[.int .i32 c] w fun e w'=>e=.returned (.bool (Fe c))∧w=w':=by
 have h95:∃ b,(c != 95)=b:=⟨_,rfl⟩
 obtain⟨b,h95⟩:=h95
 have HO:=hide (show Fe c = !(Bt c || EQ c || !b) by simp[Fe,Ci,← h95];rfl)
 have HL:=hide (show Bt c=(decide (97≤c) && decide (c≤122)) from rfl)
 have HD:=hide (show EQ c=(decide (48≤c) && decide (c≤57)) from rfl)
 by_cases h1:c<97 <;> by_cases h2:122<c <;> by_cases h3:c<48 <;> by_cases h4:57<c <;> cases b
 all_goals first
  | (exfalso;omega)
  | (go_enter Tryz.func105,Tryz.ntmps105
     go_wp2
     go_ret
     exact⟨AJ (by rw[HO.out,HL.out,HD.out];simp only[show decide (97≤c) = !decide (c<97) by simp[← decide_not],show decide (c≤122) = !decide (122<c) by simp[← decide_not],show decide (48≤c) = !decide (c<48) by simp[← decide_not],show decide (c≤57) = !decide (57<c) by simp[← decide_not]];simp[*]),rfl⟩)
end Go.Proofs.YtfemlajeomohhaaGreatDoor
namespace Go.Proofs.YtfemlajeomohhaaGreatDoor
open Go Go.RowKit Go.Proofs
theorem Md (l:List ByteArray) (x:ByteArray):Lib.containsS l x=Be l x:=by
 rw[Bool.eq_iff_iff,Jo,Lib.containsS_iff]
theorem Lj (A:Option Addr) (c:Nat) (l:List ByteArray) (s:ByteArray) (w:World) (hl:l.length≤9223372036854775807) (h:Strs w w.heap.size A l) :
    Calls Tryz.prog 107 #[.slice A l.length c,.string s] w fun e w'=>e=.returned (.bool (Be l s))∧w=w':=by
 by_cases hn:l=[]
 · subst hn
   exact(Tryz.slices_Contains_string_empty A c s w).mono fun e w' ⟨he,hw⟩=>⟨by rw[he];rfl,hw.symm⟩
 · obtain⟨b,off,rfl,hb,hc⟩:=h.form hn
   refine(Tryz.slices_Contains_string b off l.length c l s w (Nat.le_refl _) hl hc).mono fun e w' ⟨he,hw⟩=>⟨?_,hw.symm⟩
   rw[he,Md,List.take_length]
theorem Ir (s:ByteArray):∀ (f pos:Nat),s.size≤pos+f→(0≤Lib.idxFuncFrom (fun x=>Fe x) true s f pos↔∃ j,∃ h:j<s.size,pos≤j∧Ci s[j].toNat=false)
 | 0,pos,hf=>by
   simp only[Lib.idxFuncFrom]
   constructor
   · intro h;omega
   · rintro⟨j,h,hj,_⟩;omega
 | f + 1, pos,hf=>by
   unfold Lib.idxFuncFrom
   by_cases hp:pos<s.size
   · rw [if_pos hp]
     rcases Nat.lt_or_ge (s[pos].toNat) 128 with ha|ha
     · rw [decode_ascii s pos hp ha]
       cases hn:Ci s[pos].toNat
       · rw[if_pos (by simp[Fe,hn])]
         exact⟨fun _=>⟨pos,hp,Nat.le_refl _,hn⟩,fun _=>by omega⟩
       · rw [if_neg (by simp[Fe,hn]),Ir s f (pos+1) (by omega)]
         constructor
         · rintro⟨j,h,hj,hx⟩;exact⟨j,h,by omega,hx⟩
         · rintro⟨j,h,hj,hx⟩
           refine⟨j,h,?_,hx⟩
           rcases Nat.lt_or_ge pos j with h1|h1
           · omega
           · obtain rfl:j=pos:=by omega
             rw[hn] at hx;cases hx
     · obtain⟨h1,h2⟩:=decode_high s pos hp ha
       have hod:∀ n:Nat,128≤n→Fe n=true:=by
        intro n hn
        simp[Fe,Ci,Bt,EQ];omega
       rw[if_pos (hod _ h1)]
       refine⟨fun _=>⟨pos,hp,Nat.le_refl _,?_⟩,fun _=>by omega⟩
       have:=hod _ ha
       simpa[Fe] using this
   · rw[if_neg hp]
     constructor
     · intro h;omega
     · rintro⟨j,h,hj,_⟩;omega
theorem Ru (s:ByteArray):decide (0≤Lib.idxFunc (fun x=>Fe x) true s) = !s.data.toList.all (fun c=>Ci c.toNat):=by
 rw[Lib.idxFunc,Bool.eq_iff_iff,decide_eq_true_eq,Ir s s.size 0 (by omega)]
 rw[Bool.not_eq_true',Bool.eq_false_iff,Ne,KZ s (fun c=>Ci c.toNat)]
 constructor
 · rintro⟨j,h,_,hx⟩ hall
   rw[hall j h] at hx;cases hx
 · intro hall
   refine Classical.byContradiction fun hne=>hall fun j h=>?_
   cases hx:Ci s[j].toNat
   · exact absurd ⟨j,h,Nat.zero_le _,hx⟩ hne
   · rfl
theorem FP (s:ByteArray) (w:World) (ha:Asc w) (hs:s.size≤9223372036854775807) :
    Calls Tryz.prog 54 #[.string s] w fun e w'=>e=.returned (.bool (BK s))∧Below w.heap.size w w':=by
 by_cases h1:s.size<1
 · have HN:=hide (Iw h1)
   go_enter Tryz.func54,Tryz.ntmps54
   go_wp2
   go_ret
   exact⟨AJ (by rw[HN.out];rfl),Below.refl _ _⟩
 by_cases h2:31<s.size
 · have HN:=hide (Jc h2)
   go_enter Tryz.func54,Tryz.ntmps54
   go_wp2
   go_ret
   exact⟨AJ (by rw[HN.out];rfl),Below.refl _ _⟩
 cases h3:Bt s[0].toNat
 · have HN:=hide (Iu (by omega) h3)
   unfold Bt at h3
   by_cases h4:(97:Int)≤s[0].toNat
   · have h5:¬ ((s[0].toNat:Int)≤122):=by intro h5;simp[h4,h5] at h3
     clear h3
     go_enter Tryz.func54,Tryz.ntmps54
     go_wp2
     go_ret
     exact⟨AJ (by rw[HN.out];rfl),Below.refl _ _⟩
   · clear h3
     go_enter Tryz.func54,Tryz.ntmps54
     go_wp2
     go_ret
     exact⟨AJ (by rw[HN.out];rfl),Below.refl _ _⟩
 have hN:BK s=((s.data.toList.all (fun c=>Ci c.toNat)) && !Be BX s):=by
  unfold BK
  rw[Ip s (by omega),h3]
  have e1:1≤s.size:=by omega
  have e2:s.size≤31:=by omega
  simp only[e1,e2,decide_true,Bool.true_and]
  rw[Bool.and_comm]
 have hI:=Ru s
 unfold Bt at h3
 simp only[Bool.and_eq_true,decide_eq_true_eq] at h3
 obtain⟨h4,h5⟩:=h3
 have hpred:PredGrows Tryz.prog 105 #[] (fun x=>Fe x) w:=fun W x _ _ =>
  (R6 x W).mono fun e w' ⟨he,hw⟩=>⟨he,hw ▸ Below.refl _ _⟩
 have hcf:=Tryz.strings_ContainsFunc_grows 105 #[] (fun _ _=>by kernel_rfl) (fun x=>Fe x) s w hpred
 rw[hI] at hcf
 have HC:=hide hcf
 clear hcf hpred hI
 cases hall:s.data.toList.all (fun c=>Ci c.toNat)
 · rw[hall] at hN HC
   have HN:=hide (show BK s=false from hN)
   clear hN
   have HA:=hide hall;clear hall
   go_enter Tryz.func54,Tryz.ntmps54
   go_wp2_with (first
    | (go_at_call 106;refine Calls.mono HC.out ?_;rintro e w1 ⟨rfl,hb1⟩))
   go_ret
   exact⟨AJ (by rw[HN.out];rfl),hb1⟩
 · rw [hall] at hN HC
   have HA:=hide hall;clear hall
   cases hk:Be BX s
   all_goals
    rw[hk] at hN
    have HN:=hide hN
    clear hN
    go_enter Tryz.func54,Tryz.ntmps54
    go_wp2_with (first
     | (go_at_call 106;refine Calls.mono HC.out ?_;rintro e w1 ⟨rfl,hb1⟩)
     | (go_at_call 108;refine(Lu _ (Asc.below ha (Nat.le_refl _) hb1)).mono ?_;rintro e w2 ⟨rfl,hA,hb2⟩)
     | (go_at_call 107;refine(Lj _ _ BX s _ (by decide) hA).mono ?_;rintro e w' ⟨rfl,rfl⟩))
    go_ret
    exact⟨AJ (by rw[HN.out];rfl),hb1.trans (hb2.mono hb1.size)⟩
def F7 (w : World) : Prop := Lib.TabIs Tryz.prog w "internal/strconv.uint64pow10" .u64 Lib.pow10Tab
theorem F7.below {w w':World} {B:Nat} (h:F7 w) (hB:w.heap.size≤B) (hb:Below B w w'):F7 w' :=
 have hg : Tryz.prog.globalNamed "internal/strconv.uint64pow10" = some 1 := by kernel_rfl
 Jj hg h (Nat.lt_of_lt_of_le (NL hg h) hB) hb
def BO(n:Int):ByteArray:=S (Lib.itoa n)
theorem IB (n:Int) (w:World) (hp:F7 w) (hn:JK n=true) :
    Calls Tryz.prog 36 #[.int .i64 n] w fun e w'=>e=.returned (.string (BO n))∧Below w.heap.size w w':=by
 simp only[JK,Bool.and_eq_true,decide_eq_true_eq] at hn
 exact(Tryz.strconv_Itoa n (by omega) (by omega) w hp).mono fun e w' ⟨he,k,os,hw⟩=>⟨he,hw ▸ Lib.below_grow _ w (Nat.le_refl _) k os⟩
end Go.Proofs.YtfemlajeomohhaaGreatDoor
namespace Go.Proofs.YtfemlajeomohhaaGreatDoor
open Go
structure CQ where
 name:ByteArray
 site:Int
 feed:Int
structure Fq where
 name:ByteArray
 rack:Int
 cap:Int
structure Co where
 a:Int
 b:Int
 cap:Int
structure Bc where
 name:ByteArray
 kind:Int
 count:Int
 load:Int
 size:Int
 share:Int
 on:List Int
structure AR where
 kind:Int
 item:Int
 other:Int
 n:Int
 by_:Int
 always:Bool
 machines:List Int
structure AC where
 sT:List ByteArray
 fT:List ByteArray
 rT:List CQ
 mT:List Fq
 lT:List Co
 iT:List Bc
 dT:Int
 oT:Int
 vT:Int
 aT:Int
 uT:List AR
def AP(n l:Int):Bool:=decide (1≤n) && decide (n≤l)
def Au(n a b:Int):Bool:=decide (a≤n) && decide (n≤b)
def Bq{α:Type}(p:α→List α→Bool)(l:List α):Bool:=decide (∀ i (h:i<l.length),p l[i] (l.take i)=true)
theorem Dg{α:Type}{p:α→List α→Bool}{l:List α}(h:∀ i (h:i<l.length),p l[i] (l.take i)=true):Bq p l=true:=by simpa[Bq] using h
theorem BS {α:Type} {p:α→List α→Bool} {l:List α} {i:Nat} (hi:i<l.length) (h:p l[i] (l.take i)=false):Bq p l=false:=by
 rw[Bq,decide_eq_false_iff_not];intro h';rw[h' i hi] at h;cases h
theorem KR{α:Type}{p:α→List α→Bool}{l:List α}:Bq p l=true↔∀ i (h:i<l.length),p l[i] (l.take i)=true:=by simp[Bq]
/-! Chapter 14 -/
def Cj (m:AC) (x:CQ) (pre:List CQ):Bool :=
 AP x.site m.sT.length && AP x.feed m.fT.length && !pre.any fun y=>decide (y.feed=x.feed) && decide (y.site≠x.site)
def Dz(m:AC)(x:Fq):Bool:=AP x.rack m.rT.length && Au x.cap 0 1048576
def Bp (m:AC) (x:Co) (pre:List Co):Bool :=
 decide (1≤x.a) && decide (x.a<x.b) && decide (x.b≤m.sT.length) && Au x.cap 0 1048576 && !pre.any fun y=>decide (y.a=x.a) && decide (y.b=x.b)
def Bd (m:AC):Bool :=
 AP m.sT.length 4 && decide (m.fT.length≤16) && decide (m.rT.length≤16) && AP m.mT.length 16 && decide (m.lT.length≤12) && Bq (Cj m) m.rT && m.mT.all (Dz m) && Bq (Bp m) m.lT
def AZ (m:AC) (by_:Int):Int :=
 if by_=1 then m.mT.length else if by_=2 then m.rT.length else if by_=3 then m.fT.length else if by_=4 then m.sT.length else 0
def Es (m:AC) (by_ mc:Int):Int :=
 if by_=1 then mc
 else match m.mT[(mc - 1).toNat]? with
  | none=>0
  | some x=>if AP x.rack m.rT.length then(match m.rT[(x.rack - 1).toNat]? with
      | none=>0
      | some r=>if by_=3 then r.feed else if by_=4 then r.site else x.rack) else 0
def BN(m:AC)(by_ mc:Int):Int:=if AP mc m.mT.length && AP (Es m by_ mc) (AZ m by_) then Es m by_ mc else 0
/-! Chapter 15 -/
def AV(m:AC):List ByteArray:=m.sT++m.fT++m.rT.map (·.name)++m.mT.map (·.name)++m.iT.map (·.name)
def EE(m:AC):Bool:=Bq (fun s pre=>BK s && !Be pre s) (AV m)
def EP (nm:Int) (l:List Int):Bool :=
 decide (0<l.length) && decide (∀ i (h:i<l.length),AP l[i] nm=true∧(0<i→l.getD (i - 1) 0<l[i]))
def Bg (x:Bc):Bool :=
 if x.kind=0 then decide (x.count=1∨x.count=3∨x.count=5) && decide ((x.on.length:Int)=x.count)
 else if x.kind=1 then Au x.count 1 8
 else if x.kind=2 then decide (x.count=1) && decide (x.on.length=1)
 else false
def BM(m:AC)(x:Bc):Bool:=EP m.mT.length x.on && Au x.load 0 1048576 && Au x.size 0 1048576 && Au x.share 1 1048576 && Bg x
def DZ(l:List Int):Bool:=decide (l.length=0)
def Aj (m:AC) (x:AR):Bool :=
 if x.kind=0 then AP x.item m.iT.length && (match m.iT[(x.item - 1).toNat]? with|some y=>decide (y.kind=0)|none=>false) && decide (x.other=0) && decide (x.by_=0) && !x.always && DZ x.machines && decide (x.n=0)
 else if x.kind=1 then AP x.item m.iT.length && decide (x.other=0) && decide (x.by_=0) && DZ x.machines && Au x.n 0 16
 else if x.kind=2 then AP x.item m.iT.length && Au x.by_ 2 4 && decide (x.other=0) && !x.always && DZ x.machines && Au x.n 0 16
 else if x.kind=3 then AP x.item m.iT.length && EP m.mT.length x.machines && decide (x.other=0) && decide (x.by_=0) && !x.always && decide (x.n=0)
 else if x.kind=4 then AP x.item m.iT.length && AP x.other m.iT.length && decide (x.item≠x.other) && decide (x.by_=0) && !x.always && DZ x.machines && decide (x.n=0)
 else if x.kind=5 then decide (x.item=0) && decide (x.other=0) && decide (x.by_=0) && !x.always && DZ x.machines && Au x.n 0 200
 else if x.kind=6 then AP x.item m.iT.length && decide (x.other=0) && decide (x.by_=0) && !x.always && DZ x.machines && Au x.n 0 16
 else false
def FZ(m:AC):Bool:=AP m.dT m.sT.length && Au m.oT 1 16 && Au m.vT 0 (m.oT - 1) && Au m.aT 0 7
def Ab (m:AC):Bool :=
 Bd m && decide (m.iT.length≤8) && decide (m.uT.length≤40) && EE m && m.iT.all (BM m) && m.uT.all (Aj m) && FZ m
/-! Chapter 20: a placement is a list of lists of (machine, state) -/
abbrev AO:=Int×Int
abbrev AA:=List (List AO)
def Al(m:AC):AA:=m.iT.map fun x=>x.on.map fun k=>(k,0)
def AQ(p:AA)(item:Int):List AO:=if AP item p.length then p.getD (item - 1).toNat [] else []
def Ch(l:List AO)(mc:Int):Option Nat:=l.findIdx? fun u=>decide (u.1=mc)
def BL(p:AA)(item:Int)(l:List AO):AA:=if AP item p.length then p.set (item - 1).toNat l else p
def DX(l:List AO)(mc:Int):List AO:=match Ch l mc with|none=>l|some i=>l.take i++l.drop (i+1)
def Fh(l:List AO)(mc:Int):Nat:=(l.findIdx? fun u=>decide (mc<u.1)).getD l.length
def CX(l:List AO)(mc st:Int):List AO:=match Ch l mc with|some i=>l.set i (mc,st)|none=>l.take (Fh l mc)++(mc,st) :: l.drop (Fh l mc)
def Cf(p:AA)(item mc:Int):AA:=BL p item (DX (AQ p item) mc)
def Cn(p:AA)(item mc st:Int):AA:=BL p item (CX (AQ p item) mc st)
def Af(p:AA)(item st:Int):List Int:=((AQ p item).filter fun u=>decide (u.2=st)).map (·.1)
theorem Cc(p:AA)(item:Int)(l:List AO):(BL p item l).length=p.length:=by unfold BL;split <;> simp
theorem QO (p:AA) (item:Int):BL p item (AQ p item)=p:=by
 unfold BL AQ
 split
 · rename_i h
   simp only[AP,Bool.and_eq_true,decide_eq_true_eq] at h
   have hl:(item - 1).toNat<p.length:=by omega
   rw[List.getD_eq_getElem?_getD,List.getElem?_eq_getElem hl]
   simp
 · rfl
def BU (m:AC) (p:AA) (item by_:Int):List Int :=
 (List.range (AZ m by_).toNat).map fun(d:Nat)=>(((Af p item 0).filter fun k=>decide (BN m by_ k=(d:Int)+1)).length:Int)
/-! Chapters 21 and 22 -/
def CV(m:AC)(f:Int×Int)(mc:Int):Bool:=decide (1≤f.2) && decide (BN m f.1 mc=f.2)
def Bo(m:AC)(p:AA)(f:Int×Int)(item:Int):List Int:=(Af p item 0).filter fun k=>!CV m f k
def JH(m:AC)(bit by_:Int):List (Int×Int):=if(m.aT / bit) % 2=1 then(List.range (AZ m by_).toNat).map fun(i:Nat)=>(by_,(i:Int)+1) else []
def EW(m:AC):List (Int×Int):=(0,0) :: (JH m 1 1++JH m 2 2++JH m 4 3)
def Ca(m:AC)(r:AR):List (Int×Int):=if r.kind=0∨(r.kind=1∧r.always=false) then EW m else [(0,0)]
def CU(m:AC)(r:AR)(p:AA):Int:=match (BU m p r.item r.by_).findIdx? (fun n=>decide (r.n<n)) with|some i=>(i:Int)+1|none=>0
def BC(r:AR)(p:AA):Option Int:=(((AQ p r.item).map (·.1)).find? fun k=>!decide (k∈r.machines))
def Bf (m:AC) (r:AR) (p:AA) (f:Int×Int):Bool :=
 if r.kind=0 then decide ((Af p r.item 0).length<2*(Bo m p f r.item).length)
 else if r.kind=1 then decide (r.n≤(Bo m p (if r.always then(0,0) else f) r.item).length)
 else if r.kind=2 then decide (CU m r p=0)
 else if r.kind=3 then decide (BC r p=none)
 else true
def CB(m:AC)(r:AR)(p:AA):Bool:=(Ca m r).all fun f=>Bf m r p f
/-! Chapter 58 -/
structure EvM where
 kind:Int
 mach:Int
 group:Int
 old:List Int
 hitem:Int
 hstate:Int
 gone:Bool
 outcome:Int
def Ai(m:AC)(item:Int):Int:=if AP item m.iT.length then(match m.iT[(item - 1).toNat]? with|some x=>x.kind|none=>-1) else -1
def Ah (m:AC) (e:EvM):Bool :=
 if e.kind=2 then decide (Ai m e.group=0)
 else if e.kind=3 then(decide (Ai m e.hitem=1) || decide (Ai m e.hitem=2)) && AP e.mach m.mT.length
 else false
def CY(p:AA)(item:Int)(n:Nat):AA:=(List.range n).foldl (fun p (k:Nat)=>Cf p item ((k:Int)+1)) p
def BH(m:AC)(item:Int)(p:AA)(n:Int):AA:=if AP (n.tmod 100) m.mT.length then Cn p item (n.tmod 100) 0 else p
def Ac (m:AC) (p:AA) (e:EvM):AA :=
 if e.kind=2 then e.old.foldl (BH m e.group) (CY p e.group m.mT.length)
 else if e.gone=true∨(Ai m e.hitem=1∧e.hstate≠0) then Cf p e.hitem e.mach
 else if ¬ Ai m e.hitem=1∧e.hstate=2 then Cn p e.hitem e.mach 2
 else Cn p e.hitem e.mach 0
def DI(m:AC)(p:AA)(e:EvM):AA:=if Ah m e then Ac m p e else p
def DC (m:AC):AA→List EvM→List AA
 | _,[]=>[]
 | p,e :: l=>if Ah m e then Ac m p e :: DC m (Ac m p e) l else DC m p l
def Ay(m:AC)(l:List EvM):List AA:=Al m :: DC m (Al m) l
end Go.Proofs.YtfemlajeomohhaaGreatDoor
namespace Go.Proofs.YtfemlajeomohhaaGreatDoor
open Go Go.RowKit Go.Proofs
/-! Slices of elements of k cells; R tells how an element's cells read -/
structure Gv (α:Type) where
 R:World→Nat→α→List Value→Prop
 keep:∀ {w w':World} {B:Nat} {x:α} {vs:List Value},R w B x vs→(∀ p:Addr,p.block<B→w'.cell? p=w.cell? p)→R w' B x vs
 more:∀ {w:World} {B B':Nat} {x:α} {vs:List Value},R w B x vs→B≤B'→R w B' x vs
def Rows {α:Type} (E:Gv α) (k:Nat) (w:World) (B:Nat) (A:Option Addr) (l:List α):Prop :=
 ∀ (i:Nat) (hi:i<l.length),∃ (b off:Nat) (vs:List Value),A=some ⟨b,off,none⟩∧b<B∧vs.length=k∧E.R w B l[i] vs∧∀ (j:Nat) (u:Value),vs[j]? = some u→w.cell? ⟨b,off+i*k+j,none⟩=some u
section
variable {α:Type} {E:Gv α} {k:Nat} {w w':World} {B B':Nat} {A:Option Addr} {l:List α}
theorem Rows.nil_:Rows E k w B A ([]:List α):=fun i hi=>absurd hi (by simp)
theorem Rows.keep (h:Rows E k w B A l) (hk:∀ p:Addr,p.block<B→w'.cell? p=w.cell? p):Rows E k w' B A l:=fun i hi=>by
 obtain⟨b,off,vs,e,hb,hl,hR,hc⟩:=h i hi
 exact⟨b,off,vs,e,hb,hl,E.keep hR hk,fun j u hu=>(hk _ hb).trans (hc j u hu)⟩
theorem Rows.more (h:Rows E k w B A l) (hB:B≤B'):Rows E k w B' A l:=fun i hi=>by
 obtain⟨b,off,vs,e,hb,hl,hR,hc⟩:=h i hi
 exact⟨b,off,vs,e,by omega,hl,E.more hR hB,hc⟩
theorem Rows.below(h:Rows E k w B A l)(hb:Below B w w'):Rows E k w' B A l:=h.keep fun _ hp=>hb.cell hp
theorem Rows.grow(h:Rows E k w w.heap.size A l)(hb:Below w.heap.size w w'):Rows E k w' w'.heap.size A l:=(h.below hb).more hb.size
theorem Rows.take_ (h:Rows E k w B A l) (n:Nat):Rows E k w B A (l.take n):=fun i hi=>by
 have hi':i<l.length:=by simp at hi;omega
 have:=h i hi'
 simpa using this
end
def Ec:Gv CQ:=⟨fun _ _ x vs=>vs=[.string x.name,.int .i64 x.site,.int .i64 x.feed]∧x.name.size≤9223372036854775807,fun h _=>h,fun h _=>h⟩
def Hm:Gv Fq:=⟨fun _ _ x vs=>vs=[.string x.name,.int .i64 x.rack,.int .i64 x.cap]∧x.name.size≤9223372036854775807,fun h _=>h,fun h _=>h⟩
def Eb:Gv Co:=⟨fun _ _ x vs=>vs=[.int .i64 x.a,.int .i64 x.b,.int .i64 x.cap],fun h _=>h,fun h _=>h⟩
def F3:Gv Bc:=⟨fun w B x vs=>∃ A c,vs=[.string x.name,.int .i64 x.kind,.int .i64 x.count,.int .i64 x.load,.int .i64 x.size,.int .i64 x.share,.slice A x.on.length c]∧x.name.size≤9223372036854775807∧x.on.length≤c∧c≤9223372036854775807∧Ints w B A x.on,
 fun⟨A,c,h1,h2,h3,h5,h4⟩ hk=>⟨A,c,h1,h2,h3,h5,h4.keep hk⟩,fun⟨A,c,h1,h2,h3,h5,h4⟩ hB=>⟨A,c,h1,h2,h3,h5,h4.more hB⟩⟩
def F4:Gv AR:=⟨fun w B x vs=>∃ A c,vs=[.int .i64 x.kind,.int .i64 x.item,.int .i64 x.other,.int .i64 x.n,.int .i64 x.by_,.bool x.always,.slice A x.machines.length c]∧x.machines.length≤c∧c≤9223372036854775807∧Ints w B A x.machines,
 fun⟨A,c,h1,h2,h5,h4⟩ hk=>⟨A,c,h1,h2,h5,h4.keep hk⟩,fun⟨A,c,h1,h2,h5,h4⟩ hB=>⟨A,c,h1,h2,h5,h4.more hB⟩⟩
structure MH where
 s:Option Addr
 sc:Nat
 f:Option Addr
 fc:Nat
 r:Option Addr
 rc:Nat
 m:Option Addr
 mc:Nat
 l:Option Addr
 lc:Nat
 i:Option Addr
 ic:Nat
 u:Option Addr
 uc:Nat
structure MD (w:World) (B:Nat) (h:MH) (m:AC):Prop where
 dS:Strs w B h.s m.sT
 dF:Strs w B h.f m.fT
 dR:Rows Ec 3 w B h.r m.rT
 dM:Rows Hm 3 w B h.m m.mT
 dL:Rows Eb 3 w B h.l m.lT
 dI:Rows F3 7 w B h.i m.iT
 dU:Rows F4 7 w B h.u m.uT
 sl:m.sT.length≤9223372036854775807
 fl:m.fT.length≤9223372036854775807
 rl:m.rT.length≤9223372036854775807
 ml:m.mT.length≤9223372036854775807
 ll:m.lT.length≤9223372036854775807
 il:m.iT.length≤9223372036854775807
 ul:m.uT.length≤9223372036854775807
 sf:∀ s∈m.sT,s.size≤9223372036854775807
 ff:∀ s∈m.fT,s.size≤9223372036854775807
section
variable {w w':World} {B B':Nat} {h:MH} {m:AC}
theorem MD.keep (d:MD w B h m) (hk:∀ p:Addr,p.block<B→w'.cell? p=w.cell? p):MD w' B h m :=
 ⟨d.dS.keep hk,d.dF.keep hk,d.dR.keep hk,d.dM.keep hk,d.dL.keep hk,d.dI.keep hk,d.dU.keep hk,d.sl,d.fl,d.rl,d.ml,d.ll,d.il,d.ul,d.sf,d.ff⟩
theorem MD.more (d:MD w B h m) (hB:B≤B'):MD w B' h m :=
 ⟨d.dS.more hB,d.dF.more hB,d.dR.more hB,d.dM.more hB,d.dL.more hB,d.dI.more hB,d.dU.more hB,d.sl,d.fl,d.rl,d.ml,d.ll,d.il,d.ul,d.sf,d.ff⟩
theorem MD.below(d:MD w B h m)(hb:Below B w w'):MD w' B h m:=d.keep fun _ hp=>hb.cell hp
theorem MD.grow(d:MD w w.heap.size h m)(hb:Below w.heap.size w w'):MD w' w'.heap.size h m:=(d.below hb).more hb.size
theorem Strs.grow{A:Option Addr}{l:List ByteArray}(h:Strs w w.heap.size A l)(hb:Below w.heap.size w w'):Strs w' w'.heap.size A l:=(h.below hb).more hb.size
theorem Ints.grow{A:Option Addr}{l:List Int}(h:Ints w w.heap.size A l)(hb:Below w.heap.size w w'):Ints w' w'.heap.size A l:=(h.below hb).more hb.size
theorem Rows.mach {A:Option Addr} {l:List Fq} (h:Rows Hm 3 w B A l) {i:Nat} (hi:i<l.length):∃ b off,A=some ⟨b,off,none⟩∧b<B∧w.cell? ⟨b,off+i*3,none⟩=some (.string l[i].name)∧w.cell? ⟨b,off+i*3+1,none⟩=some (.int .i64 l[i].rack)∧w.cell? ⟨b,off+i*3+2,none⟩=some (.int .i64 l[i].cap)∧l[i].name.size≤9223372036854775807:=by
 obtain⟨b,off,vs,e,hb,_,⟨rfl,hz⟩,hc⟩:=h i hi
 exact⟨b,off,e,hb,hc 0 _ rfl,hc 1 _ rfl,hc 2 _ rfl,hz⟩
theorem Rows.rack {A:Option Addr} {l:List CQ} (h:Rows Ec 3 w B A l) {i:Nat} (hi:i<l.length):∃ b off,A=some ⟨b,off,none⟩∧b<B∧w.cell? ⟨b,off+i*3,none⟩=some (.string l[i].name)∧w.cell? ⟨b,off+i*3+1,none⟩=some (.int .i64 l[i].site)∧w.cell? ⟨b,off+i*3+2,none⟩=some (.int .i64 l[i].feed)∧l[i].name.size≤9223372036854775807:=by
 obtain⟨b,off,vs,e,hb,_,⟨rfl,hz⟩,hc⟩:=h i hi
 exact⟨b,off,e,hb,hc 0 _ rfl,hc 1 _ rfl,hc 2 _ rfl,hz⟩
theorem Rows.link {A:Option Addr} {l:List Co} (h:Rows Eb 3 w B A l) {i:Nat} (hi:i<l.length):∃ b off,A=some ⟨b,off,none⟩∧b<B∧w.cell? ⟨b,off+i*3,none⟩=some (.int .i64 l[i].a)∧w.cell? ⟨b,off+i*3+1,none⟩=some (.int .i64 l[i].b)∧w.cell? ⟨b,off+i*3+2,none⟩=some (.int .i64 l[i].cap):=by
 obtain⟨b,off,vs,e,hb,_,rfl,hc⟩:=h i hi
 exact⟨b,off,e,hb,hc 0 _ rfl,hc 1 _ rfl,hc 2 _ rfl⟩
theorem Rows.item {A:Option Addr} {l:List Bc} (h:Rows F3 7 w B A l) {i:Nat} (hi:i<l.length):∃ b off A2 c2,A=some ⟨b,off,none⟩∧b<B∧w.cell? ⟨b,off+i*7,none⟩=some (.string l[i].name)∧w.cell? ⟨b,off+i*7+1,none⟩=some (.int .i64 l[i].kind)∧w.cell? ⟨b,off+i*7+2,none⟩=some (.int .i64 l[i].count) ∧
    w.cell? ⟨b,off+i*7+3,none⟩=some (.int .i64 l[i].load)∧w.cell? ⟨b,off+i*7+4,none⟩=some (.int .i64 l[i].size)∧w.cell? ⟨b,off+i*7+5,none⟩=some (.int .i64 l[i].share)∧w.cell? ⟨b,off+i*7+6,none⟩=some (.slice A2 l[i].on.length c2) ∧
    l[i].name.size≤9223372036854775807∧l[i].on.length≤c2∧c2≤9223372036854775807∧Ints w B A2 l[i].on:=by
 obtain⟨b,off,vs,e,hb,_,⟨A2,c2,rfl,h1,h2,h4,h3⟩,hc⟩:=h i hi
 exact⟨b,off,A2,c2,e,hb,hc 0 _ rfl,hc 1 _ rfl,hc 2 _ rfl,hc 3 _ rfl,hc 4 _ rfl,hc 5 _ rfl,hc 6 _ rfl,h1,h2,h4,h3⟩
theorem Rows.rule {A:Option Addr} {l:List AR} (h:Rows F4 7 w B A l) {i:Nat} (hi:i<l.length):∃ b off A2 c2,A=some ⟨b,off,none⟩∧b<B∧w.cell? ⟨b,off+i*7,none⟩=some (.int .i64 l[i].kind)∧w.cell? ⟨b,off+i*7+1,none⟩=some (.int .i64 l[i].item)∧w.cell? ⟨b,off+i*7+2,none⟩=some (.int .i64 l[i].other) ∧
    w.cell? ⟨b,off+i*7+3,none⟩=some (.int .i64 l[i].n)∧w.cell? ⟨b,off+i*7+4,none⟩=some (.int .i64 l[i].by_)∧w.cell? ⟨b,off+i*7+5,none⟩=some (.bool l[i].always)∧w.cell? ⟨b,off+i*7+6,none⟩=some (.slice A2 l[i].machines.length c2) ∧
    l[i].machines.length≤c2∧c2≤9223372036854775807∧Ints w B A2 l[i].machines:=by
 obtain⟨b,off,vs,e,hb,_,⟨A2,c2,rfl,h2,h4,h3⟩,hc⟩:=h i hi
 exact⟨b,off,A2,c2,e,hb,hc 0 _ rfl,hc 1 _ rfl,hc 2 _ rfl,hc 3 _ rfl,hc 4 _ rfl,hc 5 _ rfl,hc 6 _ rfl,h2,h4,h3⟩
theorem Dy {A:Option Addr} {l:List Int} (h:Ints w B A l) {k:Nat} (hk:k<l.length):∃ b off,A=some ⟨b,off,none⟩∧b<B∧w.cell? ⟨b,off+k,none⟩=some (.int .i64 l[k]):=by
 obtain⟨b,off,e,hb,hc⟩:=Ints.form h (by intro e;subst e;simp at hk)
 exact⟨b,off,e,hb,by rw[hc k hk];simp[hk]⟩
theorem GY {A:Option Addr} {l:List ByteArray} (h:Strs w B A l) {k:Nat} (hk:k<l.length):∃ b off,A=some ⟨b,off,none⟩∧b<B∧w.cell? ⟨b,off+k,none⟩=some (.string l[k]):=by
 obtain⟨b,off,e,hb,hc⟩:=Strs.form h (by intro e;subst e;simp at hk)
 exact⟨b,off,e,hb,by rw[hc k hk];simp[hk]⟩
end
structure MW (w:World) (bm:Nat) (wr:World) (h:MH) (m:AC):Prop where
 b:Below w.heap.size w wr
 blk:AB wr bm 29 #[.slice h.s m.sT.length h.sc,.slice h.f m.fT.length h.fc,.slice h.r m.rT.length h.rc,.slice h.m m.mT.length h.mc,.slice h.l m.lT.length h.lc,.slice h.i m.iT.length h.ic,.int .i64 m.dT,.int .i64 m.oT,.int .i64 m.vT,.int .i64 m.aT,.slice h.u m.uT.length h.uc]
section
variable {w wr w2:World} {bm:Nat} {h:MH} {m:AC}
theorem MW.start(w:World)(h:MH)(m:AC):MW w w.heap.size (w.alloc (.cells #[.slice h.s m.sT.length h.sc,.slice h.f m.fT.length h.fc,.slice h.r m.rT.length h.rc,.slice h.m m.mT.length h.mc,.slice h.l m.lT.length h.lc,.slice h.i m.iT.length h.ic,.int .i64 m.dT,.int .i64 m.oT,.int .i64 m.vT,.int .i64 m.aT,.slice h.u m.uT.length h.uc] 29)) h m:=⟨(Below.refl _ _).alloc (Nat.le_refl _) _,AB.new _ _ _⟩
theorem MW.lt(d:MW w bm wr h m):bm<wr.heap.size:=AB.lt d.blk
theorem MW.grow(d:MW w bm wr h m)(hb:Below wr.heap.size wr w2):MW w bm w2 h m:=⟨d.b.trans (hb.mono d.b.size),d.blk.below hb d.lt⟩
theorem MW.drewN (d:MW w bm wr h m) (n:Nat):MW w bm (wr.drewN n) h m:=by
 induction n with
 | zero=>exact d
 | succ n ih=>exact⟨ih.b.drew,ih.blk⟩
theorem MW.md(d:MW w bm wr h m)(hd:MD w w.heap.size h m):MD wr wr.heap.size h m:=hd.grow d.b
theorem MB.cells (d:AB wr bm 29 #[.slice h.s m.sT.length h.sc,.slice h.f m.fT.length h.fc,.slice h.r m.rT.length h.rc,.slice h.m m.mT.length h.mc,.slice h.l m.lT.length h.lc,.slice h.i m.iT.length h.ic,.int .i64 m.dT,.int .i64 m.oT,.int .i64 m.vT,.int .i64 m.aT,.slice h.u m.uT.length h.uc]) :
    wr.cell? ⟨bm,0,none⟩=some (.slice h.s m.sT.length h.sc)∧wr.cell? ⟨bm,1,none⟩=some (.slice h.f m.fT.length h.fc)∧wr.cell? ⟨bm,2,none⟩=some (.slice h.r m.rT.length h.rc)∧wr.cell? ⟨bm,3,none⟩=some (.slice h.m m.mT.length h.mc) ∧
    wr.cell? ⟨bm,4,none⟩=some (.slice h.l m.lT.length h.lc)∧wr.cell? ⟨bm,5,none⟩=some (.slice h.i m.iT.length h.ic)∧wr.cell? ⟨bm,6,none⟩=some (.int .i64 m.dT)∧wr.cell? ⟨bm,7,none⟩=some (.int .i64 m.oT) ∧
    wr.cell? ⟨bm,8,none⟩=some (.int .i64 m.vT)∧wr.cell? ⟨bm,9,none⟩=some (.int .i64 m.aT)∧wr.cell? ⟨bm,10,none⟩=some (.slice h.u m.uT.length h.uc) :=
 ⟨d.cell 0,d.cell 1,d.cell 2,d.cell 3,d.cell 4,d.cell 5,d.cell 6,d.cell 7,d.cell 8,d.cell 9,d.cell 10⟩
end
end Go.Proofs.YtfemlajeomohhaaGreatDoor
