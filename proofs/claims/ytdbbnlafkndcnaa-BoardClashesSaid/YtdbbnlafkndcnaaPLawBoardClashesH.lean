/- Several texts in one (FnRom, PureBoard, FnMem, FnTimer, FnSerial, FnVideo, FnVideoB, PureSound), for the proof of LawBoardClashes. No condition beyond those in each lemma. -/
import Derived.Test.YtdbbnlafkndcnaaPLawBoardClashesG
import Derived.Test.YtdbbnlafkndcnaaPLawBoardClashesD
import Derived.Test.YtdbbnlafkndcnaaPLawBoardClashesE
import Derived.RowKit
namespace Go.Proofs.Ytdbbnlafkndcnaa.Calc
open Go Code
set_option linter.unusedSimpArgs false
set_option linter.unusedVariables false
set_option maxRecDepth 20000
set_option maxHeartbeats 8000000
attribute [local irreducible] WOpsT AW AK RK AKW UK UC
def cpy (z b:List Int) (o:Nat):List Int:=(List.range z.length).map fun j=>if o≤j∧j < o+b.length then b.getD (j - o) 0 else z.getD j 0
theorem cpy_len (z b:List Int) (o:Nat):(cpy z b o).length=z.length:=by simp [cpy]
theorem cpy_bytes {z b:List Int} (hz:Bytes z) (hb:Bytes b) (o:Nat):Bytes (cpy z b o):=by
 intro i
 rw [List.getD_eq_getElem?_getD]
 unfold cpy
 rw [List.getElem?_map]
 by_cases hi:i < z.length
 ·rw [List.getElem?_range hi]
  simp only [Option.map_some,Option.getD_some]
  split
  ·exact hb _
  ·exact hz _
 ·rw [List.getElem?_eq_none (by simp; omega)]
  exact ⟨Int.le_refl 0,by show (0:Int) < 256; decide⟩
theorem cpy_eq (z b:List Int) (o:Nat) (h:o+b.length≤z.length):cpy z b o=z.take o ++ b ++ z.drop (o+b.length):=by
 apply List.ext_getElem?
 intro j
 unfold cpy
 rw [List.getElem?_map]
 have e1:(z.take o).length=o:=by rw [List.length_take]; omega
 by_cases hj:j < z.length
 ·rw [List.getElem?_range hj]
  simp only [Option.map_some,List.getD_eq_getElem?_getD]
  by_cases h1:j < o
  ·rw [if_neg (by omega),List.append_assoc,List.getElem?_append_left (by omega),List.getElem?_take_of_lt h1,List.getElem?_eq_getElem hj]; rfl
  ·by_cases h2:j < o+b.length
   ·rw [if_pos (by omega),List.append_assoc,List.getElem?_append_right (by omega),e1,List.getElem?_append_left (by omega),List.getElem?_eq_getElem (show j - o < b.length by omega)]; rfl
   ·rw [if_neg (by omega),List.getElem?_append_right (by rw [List.length_append,e1]; omega),List.length_append,e1,List.getElem?_drop,show o+b.length+(j - (o+b.length))=j by omega,List.getElem?_eq_getElem hj]; rfl
 ·rw [List.getElem?_eq_none (by simp; omega),List.getElem?_eq_none (by simp [e1]; omega)]; rfl
theorem bcells_app (a b:List Int):bcells a ++ bcells b=bcells (a ++ b):=by simp [bcells]
section
variable {P:Program} {rest:List AOper} {tr:Tr} {fr:Fr} {h:List Blk} {K:KT} {d:Option Nat}
theorem T.copyB {t s:AO} {b ver off len:Nat} {zs ys:List Int} (ht:t.ev (lk fr)=.psl b ver off len) (hb:h[b]?=some ⟨ver,1,bcells zs⟩) (hs:rowsOf (fun b=>h[b]?) (s.ev (lk fr))=some (1,bcells ys)) (hl:ys.length≤len∧off+len≤zs.length)
  (hK:WOpsT P rest (tr ++ [(b :: vlook (s.ev (lk fr)),[b])]) (put fr d (I ys.length)) (h.set b ⟨ver,1,bcells (cpy zs ys off)⟩) K):WOpsT P (⟨d,.copy 1 t s,none⟩ :: rest) tr fr h K :=
 T.copy ht hb hs ⟨rfl,rfl⟩ (by
  have e1:min (bcells ys).length len=ys.length:=by rw [bcells_len]; omega
  have e2:(bcells zs).take off ++ (bcells ys).take len ++ (bcells zs).drop (off+ys.length)=bcells (cpy zs ys off):=by
   rw [cpy_eq zs ys off (by omega),bcells_take,bcells_take,bcells_drop,List.take_of_length_le hl.1,bcells_app,bcells_app]
  dsimp only
  rw [e1,e2]; exact hK)
end
theorem rows_b {bl:Nat→Option Blk} {b ver len:Nat} {ys:List Int} (hb:bl b=some ⟨ver,1,bcells ys⟩) (hl:ys.length≤len):rowsOf bl (.psl b ver 0 len)=some (1,bcells ys):=by
 unfold rowsOf
 simp only [hb]
 rw [if_pos trivial,List.drop_zero,List.take_of_length_le (by rw [bcells_len]; exact hl)]
theorem WS.bytes {h:List Blk} {b v len:Nat} {m:List Int} (hb:h[b]?=some ⟨v,1,bcells m⟩) (hl:m.length≤len):WeakS 0 (.psl b v 0 len) h (.sl 1 (bcells m)) [] :=
 WS.gc [] 1 rfl rfl (by rw [out_bytesK rfl hb hl]; exact .rfl)
theorem zerosB (n:Nat):List.replicate n [V.c (.int .u8 0)]=bcells (List.replicate n 0):=by simp [bcells]
theorem Bytes.zeros (n:Nat):Bytes (List.replicate n 0):=by
 intro i
 rw [List.getD_eq_getElem?_getD,List.getElem?_replicate]
 split <;> exact ⟨Int.le_refl 0,by show (0:Int) < 256; decide⟩
theorem bsetv (m:List Int) (k:Nat) (x v:Int):(bcells m).set k (spl [V.c (.int .u8 x)] 0 [V.c (.int .u8 v)])=bcells (m.set k v):=by rw [← bcells_set]; rfl
theorem browv (m:List Int) (k:Nat) (hk:k < m.length):(bcells m)[k]?=some [.c (.int .u8 m[k])]:=by
 rw [bcells_get,List.getElem?_eq_getElem hk]; rfl
def ansL:List Int:=[namV ⟨#[112,104,112]⟩,namV ⟨#[112,104,97]⟩,opV ⟨#[105,110,99]⟩ 2,9,opV ⟨#[108,100,97]⟩ 4,3,224,opV ⟨#[108,100,97]⟩ 4,16,224,namV ⟨#[112,108,97]⟩,namV ⟨#[112,108,112]⟩,namV ⟨#[114,116,105]⟩]
theorem ansL_bytes:Bytes ansL:=by
 have h:=namV_range
 have k:=opV_range
 unfold ansL
 refine .cons (.cons (.cons (.cons (.cons (.cons (.cons (.cons (.cons (.cons (.cons (.cons (.cons .nil ?_) ?_) ?_) ?_) ?_) ?_) ?_) ?_) ?_) ?_) ?_) ?_) ?_ <;> first|exact h _|exact k _ _|decide
def romOf (b:List Int):List Int:=(((((((((cpy (((cpy (List.replicate 256 0) b 0).set b.length (namV ⟨#[106,109,112]⟩)).set (b.length+1) 0 |>.set (b.length+2) 255) ansL 180).set 250 180).set 251 255).set 254 180).set 255 255).set 252 0).set 253 255)))
theorem romOf_len (b:List Int):(romOf b).length=256:=by unfold romOf; simp only [List.length_set,cpy_len,List.length_replicate]
theorem romOf_bytes (b:List Int) (hb:Bytes b):Bytes (romOf b):=by
 unfold romOf
 refine Bytes.set (Bytes.set (Bytes.set (Bytes.set (Bytes.set (Bytes.set (cpy_bytes (Bytes.set (Bytes.set (Bytes.set (cpy_bytes (Bytes.zeros _) hb _) _ _ (namV_range _)) _ _ (by decide)) _ _ (by decide)) ansL_bytes _) _ _ (by decide)) _ _ (by decide)) _ _ (by decide)) _ _ (by decide)) _ _ (by decide)) _ _ (by decide)
theorem rom_ex (l:List Int):∃ m:List Int,m.length=256∧Bytes m∧FnE Try.prog 39 [.sl 1 (cells l)] [] (.sl 1 (bcells m)) []:=by
 obtain ⟨⟨bs,l2⟩,h1,h2,h3,hp⟩:=program_ex l 160 (by decide)
 dsimp only at h1 h2 h3 hp
 have n3:=next_ok l2 3 (by decide)
 have e3:∀ k:Nat,((k:Int)+1).toNat=k+1:=fun k=>by omega
 have e4:∀ k:Nat,((k:Int)+2).toNat=k+2:=fun k=>by omega
 have e5:((250:Int)+1).toNat=251:=rfl
 have e6:((254:Int)+1).toNat=255:=rfl
 have o1:=named_m ⟨#[112,104,112]⟩
 have o2:=named_m ⟨#[112,104,97]⟩
 have o3:=op_ok ⟨#[105,110,99]⟩ 2
 have o4:=op_ok ⟨#[108,100,97]⟩ 4
 have o5:=named_m ⟨#[112,108,97]⟩
 have o6:=named_m ⟨#[112,108,112]⟩
 have o7:=named_m ⟨#[114,116,105]⟩
 have o8:=named_m ⟨#[106,109,112]⟩
 have o9:=named_m ⟨#[99,108,105]⟩
 have hzl:(List.replicate 256 (0:Int)).length=256:=List.length_replicate
 by_cases hc:0 < sval l2 3
 ·refine ⟨romOf (namV ⟨#[99,108,105]⟩ :: bs),romOf_len _,romOf_bytes _ (h2.cons (namV_range _)),?_⟩
  unfold romOf
  rw [List.length_cons]
  obtain ⟨c,hc9⟩:∃ c,namV ⟨#[99,108,105]⟩=c:=⟨_,rfl⟩
  obtain ⟨q,hq⟩:∃ q,c :: bs=q:=⟨_,rfl⟩
  have hql:q.length=bs.length+1:=by rw [← hq]; rfl
  rw [hc9] at o9 ⊢
  rw [hq,← hql]
  refine N.fnC Try.func39 k39 fun Q hQ hQN=>?_
  repeat' (first|rw [zerosB]|refine T.appBs (xs:=[c]) (ys:=bs) rfl rfl rfl rfl ⟨by decide,by omega⟩ ?_|refine T.copyB (ys:=q) rfl rfl (by rw [← hq]; exact rows_b rfl (by rw [List.length_cons]; omega)) ⟨by omega,by rw [hzl]; decide⟩ ?_|rw [e3]|rw [e4]|rw [Int.toNat_natCast]|(show Wo (.st _ _ _); refine T.st rfl rfl rfl ⟨rfl,rfl⟩ (browv _ _ (by simp only [List.length_set,cpy_len,List.length_replicate]; omega)) lb ?_)|rw [bsetv]|(show AK _ _ (.loop _) _ _ _ _; refine N.unroll 3 ?_)|rw [e5]|rw [e6]|refine T.copyB (ys:=ansL) rfl rfl (rows_b rfl lb) ⟨lb,by simp only [List.length_set,cpy_len,List.length_replicate]; decide⟩ ?_|(show Wc; first|refine T.cP [0] e64 (hp) ?_|refine T.call1 0 e28 rfl rfl (n3) ?_|refine T.call0 e65 rfl o1 ?_|refine T.call0 e65 rfl o2 ?_|refine T.call0 e66 rfl o3 ?_|refine T.call0 e66 rfl o4 ?_|refine T.call0 e65 rfl o5 ?_|refine T.call0 e65 rfl o6 ?_|refine T.call0 e65 rfl o7 ?_|refine T.call0 e65 rfl o8 ?_|refine T.call0 e65 rfl o9 ?_)|exact ⟨⟩|intro (K:KT) hK|intro hcd|refine go1 ?_ ?_|fail)
  exact WS.bytes rfl (by simp only [List.length_set,cpy_len,List.length_replicate]; exact Nat.le_refl _)
 ·refine ⟨romOf bs,romOf_len _,romOf_bytes _ h2,?_⟩
  unfold romOf
  refine N.fnC Try.func39 k39 fun Q hQ hQN=>?_
  repeat' (first|rw [zerosB]|refine T.copyB (ys:=bs) rfl rfl rfl ⟨by omega,by rw [hzl]; decide⟩ ?_|rw [e3]|rw [e4]|rw [Int.toNat_natCast]|(show Wo (.st _ _ _); refine T.st rfl rfl rfl ⟨rfl,rfl⟩ (browv _ _ (by simp only [List.length_set,cpy_len,List.length_replicate]; omega)) lb ?_)|rw [bsetv]|(show AK _ _ (.loop _) _ _ _ _; refine N.unroll 3 ?_)|rw [e5]|rw [e6]|refine T.copyB (ys:=ansL) rfl rfl (rows_b rfl lb) ⟨lb,by simp only [List.length_set,cpy_len,List.length_replicate]; decide⟩ ?_|(show Wc; first|refine T.cP [0] e64 (hp) ?_|refine T.call1 0 e28 rfl rfl (n3) ?_|refine T.call0 e65 rfl o1 ?_|refine T.call0 e65 rfl o2 ?_|refine T.call0 e66 rfl o3 ?_|refine T.call0 e66 rfl o4 ?_|refine T.call0 e65 rfl o5 ?_|refine T.call0 e65 rfl o6 ?_|refine T.call0 e65 rfl o7 ?_|refine T.call0 e65 rfl o8 ?_|refine T.call0 e65 rfl o9 ?_)|exact ⟨⟩|intro (K:KT) hK|intro hcd|refine go1 ?_ ?_|fail)
  exact WS.bytes rfl (by simp only [List.length_set,cpy_len,List.length_replicate]; exact Nat.le_refl _)
end Go.Proofs.Ytdbbnlafkndcnaa.Calc
namespace Go.Proofs.Ytdbbnlafkndcnaa.Calc
open Go
set_option linter.unusedVariables false
set_option linter.unusedSimpArgs false
structure Chp where
 name:ByteArray
 kind:Int
 base:Int
 size:Int
 data:List Int
structure Wir where
 src:ByteArray
 dst:ByteArray
structure Brd where
 name:ByteArray
 cpu:Cpu
 chips:List Chp
 wires:List Wir
def chV (c:Chp):List V:=[.c (.string c.name),I c.kind,I c.base,I c.size,.sl 1 (bcells c.data)]
def wiV (w:Wir):List V:=[.c (.string w.src),.c (.string w.dst)]
def boV (b:Brd):List V:=.c (.string b.name) :: cpC b.cpu ++ [.sl 5 (b.chips.map chV),.sl 2 (b.wires.map wiV)]
def daV (l:List Int):V:=match l with
 | []=>.c (.slice none 0 0)
 | a :: l=>.sl 1 (bcells (a :: l))
def chQ (c:Chp):List V:=[.c (.string c.name),I c.kind,I c.base,I c.size,daV c.data]
instance:Flat chV:=⟨fun a x hx=>by simp [chV] at hx; rcases hx with rfl|rfl|rfl|rfl|rfl <;> first|exact .inl ⟨_,rfl⟩|exact .inr ⟨_,_,rfl⟩⟩
instance:Flat wiV:=⟨fun a x hx=>by simp [wiV] at hx; rcases hx with rfl|rfl <;> exact .inl ⟨_,rfl⟩⟩
instance:Flat chQ:=⟨fun a x hx=>by
 obtain ⟨n,k,b,s,d⟩:=a
 cases d with
 | nil=>simp [chQ,daV] at hx; rcases hx with rfl|rfl|rfl|rfl|rfl <;> exact .inl ⟨_,rfl⟩
 | cons v d=>simp [chQ,daV] at hx; rcases hx with rfl|rfl|rfl|rfl|rfl <;> first|exact .inl ⟨_,rfl⟩|exact .inr ⟨_,_,rfl⟩⟩
theorem sub_daV (l:List Int):Sub (daV l) (.sl 1 (bcells l)):=by cases l <;> first|exact .nil|exact .rfl
def sIrq:ByteArray:=⟨#[46,105,114,113]⟩
def sCpuIrq:ByteArray:=⟨#[99,112,117,46,105,114,113]⟩
def sChip:ByteArray:=⟨#[99,104,105,112,45]⟩
def kdN (m:Nat):Nat:=[3,5,4,6,7,8,2,3].getD m 0
def szN (k:Nat):Nat:=[0,0,9,4,2,3,32,8,4].getD k 0
def chipN (i:Nat):ByteArray:=sChip ++ Utf8.encode (97+(i:Int))
def drvD (i n k:Nat):List Int:=(List.range n).map fun j=>if j < k then IntKind.wrap .u8 ((j:Int) * 7+i) else 0
def datB (k i:Nat) (l:List Int):List Int×List Int :=
 if k=8 then (drvD i (256 * (1+(sval l 2).toNat)) (256 * (1+(sval l 2).toNat)),srest l 2)
 else if k=2 then (bytesOf [sval l 256,sval (srest l 256) 256] (8+8 * (sval (srest (srest l 256) 256) 3).toNat),srest (srest (srest l 256) 256) 3)
 else ([],l)
def wirB (k:Nat) (n:ByteArray) (l:List Int):List Wir×List Int :=
 if k=3∨k=5∨k=8 then (if 0 < sval l 3 then [⟨n ++ sIrq,sCpuIrq⟩] else [],srest l 3) else ([],l)
def mkChp (k i:Nat) (a:Int) (d:List Int):Chp:=⟨chipN i,k,a,szN k,d⟩
def stepBd (k i:Nat) (a:Int) (l:List Int):Chp×List Wir×List Int :=
 (mkChp k i a (datB k i l).1,wirB k (chipN i) (datB k i l).2)
def goBd:Nat→Nat→Int→List Chp→List Wir→List Int→List Chp×List Wir×List Int
 | 0,_,_,cs,ws,l=>(cs,ws,l)
 | n+1,i,a,cs,ws,l =>
  goBd n (i+1) (a+((szN (kdN (sval l 8).toNat):Int)+15) / 16 * 16) (cs ++ [(stepBd (kdN (sval l 8).toNat) i a (srest l 8)).1]) (ws ++ (stepBd (kdN (sval l 8).toNat) i a (srest l 8)).2.1) (stepBd (kdN (sval l 8).toNat) i a (srest l 8)).2.2
def ramC:Chp:=⟨⟨#[114,97,109]⟩,0,0,768,[]⟩
noncomputable def romD (l:List Int):List Int:=(rom_ex l).choose
noncomputable def romC (l:List Int):Chp:=⟨⟨#[114,111,109]⟩,1,65280,256,romD l⟩
def bdOf (l:List Int):List Chp×List Wir×List Int:=goBd (sval l 5).toNat 0 57344 [ramC] [] (srest l 5)
noncomputable def mkBrd (l:List Int):Brd:=⟨⟨#[98,111,97,114,100]⟩,stdM,(bdOf l).1 ++ [romC (bdOf l).2.2],(bdOf l).2.1⟩
theorem romD_ok (l:List Int):(romD l).length=256∧Bytes (romD l)∧FnE Try.prog 39 [.sl 1 (cells l)] [] (.sl 1 (bcells (romD l))) []:=(rom_ex l).choose_spec
theorem drvD_len (i n k:Nat):(drvD i n k).length=n:=by simp [drvD]
theorem drvD_zero (i n:Nat):drvD i n 0=List.replicate n 0:=by
 apply List.ext_getElem?
 intro j
 simp only [drvD,List.getElem?_map,List.getElem?_replicate,Nat.not_lt_zero,if_false]
 by_cases hj:j < n
 ·rw [if_pos hj,List.getElem?_range hj]; rfl
 ·rw [if_neg hj,List.getElem?_eq_none (by simp; omega)]; rfl
theorem drvD_set (i n k:Nat) (hk:k < n):(drvD i n k).set k (IntKind.wrap .u8 ((k:Int) * 7+i))=drvD i n (k+1):=by
 apply List.ext_getElem?
 intro j
 simp only [drvD]
 by_cases hij:k=j
 ·subst hij
  rw [List.getElem?_set_self (by simpa using hk),List.getElem?_map,List.getElem?_range hk]
  simp
 ·rw [List.getElem?_set_ne hij,List.getElem?_map,List.getElem?_map]
  by_cases hj:j < n
  ·rw [List.getElem?_range hj]
   simp only [Option.map_some]
   by_cases h2:j < k
   ·rw [if_pos h2,if_pos (by omega)]
   ·rw [if_neg h2,if_neg (by omega)]
  ·rw [List.getElem?_eq_none (by simp; omega)]; rfl
theorem drvD_bytes (i n k:Nat):Bytes (drvD i n k):=by
 intro j
 simp only [drvD,List.getD_eq_getElem?_getD,List.getElem?_map]
 by_cases hi:j < n
 ·rw [List.getElem?_range hi]
  simp only [Option.map_some,Option.getD_some]
  split
  ·exact wrapB _
  ·exact ⟨Int.le_refl 0,by decide⟩
 ·rw [List.getElem?_eq_none (by simp; omega)]
  exact ⟨Int.le_refl 0,by show (0:Int) < 256; decide⟩
theorem kdN_r (m:Nat) (h:m < 8):2≤kdN m∧kdN m≤8:=by
 match m with
 | 0=>decide
 | 1=>decide
 | 2=>decide
 | 3=>decide
 | 4=>decide
 | 5=>decide
 | 6=>decide
 | 7=>decide
theorem szN_r (k:Nat):szN k≤32:=by
 match k with
 | 0=>decide
 | 1=>decide
 | 2=>decide
 | 3=>decide
 | 4=>decide
 | 5=>decide
 | 6=>decide
 | 7=>decide
 | 8=>decide
 | k+9=>exact Nat.zero_le _
theorem kd_rows (m:Nat) (h:m < 8):([[I 3],[I 5],[I 4],[I 6],[I 7],[I 8],[I 2],[I 3]]:List (List V))[m]?=some [I (kdN m:Nat)]:=by
 match m with
 | 0=>rfl
 | 1=>rfl
 | 2=>rfl
 | 3=>rfl
 | 4=>rfl
 | 5=>rfl
 | 6=>rfl
 | 7=>rfl
theorem sz_rows (k:Nat) (h:k < 9):([[I 0],[I 0],[I 9],[I 4],[I 2],[I 3],[I 32],[I 8],[I 4]]:List (List V))[k]?=some [I (szN k:Nat)]:=by
 match k with
 | 0=>rfl
 | 1=>rfl
 | 2=>rfl
 | 3=>rfl
 | 4=>rfl
 | 5=>rfl
 | 6=>rfl
 | 7=>rfl
 | 8=>rfl
theorem wrapi32 (n:Int) (h:0≤n∧n < 1000):IntKind.wrap .i32 n=n:=by
 simp [IntKind.wrap,IntKind.signed,IntKind.bits]; omega
theorem encSize:∀ v:Nat,v < 26→(Utf8.encode (97+(v:Int))).size=1:=by decide +kernel
theorem chipN_size (i:Nat) (h:i < 26):(chipN i).size=6:=by
 unfold chipN
 rw [ByteArray.size_append,encSize i h]; rfl
theorem catV (a b:ByteArray) (ha:a.size≤1000∧b.size≤1000):binV .add (.string a) (.string b)=some (.string (a ++ b)):=by
 simp only [binV]
 rw [if_pos (by omega)]
end Go.Proofs.Ytdbbnlafkndcnaa.Calc
namespace Go.Proofs.Ytdbbnlafkndcnaa.Calc
open Go Code
set_option linter.unusedSimpArgs false
set_option linter.unusedVariables false
set_option maxRecDepth 20000
set_option maxHeartbeats 8000000
attribute [local irreducible] WOpsT AW AK RK AKW UK UC
def cR (nm:ByteArray) (k b s:Int) (d:List Int):List V:=[.c (.string nm),I k,I b,I s,.sl 1 (bcells d)]
section
variable (nm:ByteArray) (b:Int) (d:List Int)
def rdK (n:Int) (m:List Int) (a:Int):Int:=if a=0 then n else m.getD (n * 8+a - 1).toNat 0
end
abbrev TimOk (a b c f:Int):Prop:=0≤a∧a < 65536∧0≤b∧b < 65536∧0≤c∧c < 8∧0≤f∧f < 2
def skip4 (a b c f s:Int):List Int :=
 if s≤0 then [a,b,c,f] else if c % 2=0 then [a,b,c,f] else if s≤a then [a - s,b,c,f]
 else if c / 2 % 2=1 then [b - (s - a - 1) % (b+1),b,c,1] else [0,b,c - c % 2,1]
abbrev SerOk (s l g f o c n z:Int):Prop:=(0≤s∧s < 256)∧(0≤l∧l < 64)∧(0≤g∧g < 256)∧(0≤f∧f < 2)∧(0≤o∧o < 2)∧(0≤c∧c < 4)∧(0≤n∧n < 1048576)∧(0≤z∧z < 256)
def serSkip (s l g f o c n z k:Int):List Int:=if k≤0∨l=0 then [s,l,g,f,o,c,n,z] else if k < l then [s,l - k,g,f,o,c,n,z] else [s,0,g,f,o,c,(n+1) % 2 ^ 20,s]
def vvis (p:Int):Prop:=p % 64 < 48∧p / 64 < 32
instance (p:Int):Decidable (vvis p):=by unfold vvis; exact inferInstance
def vcell (m:List Int) (p:Int):Int:=m.getD (8+p / 64 / 8 * 6+p % 64 / 8).toNat 0 % 16
def vspr (m:List Int) (p:Int):Prop:=0≤p % 64 - m.getD 1 0∧p % 64 - m.getD 1 0 < 8∧0≤p / 64 - m.getD 2 0∧p / 64 - m.getD 2 0 < 8∧m.getD 4 0 / 2 ^ (7 - (p % 64 - m.getD 1 0)).toNat % 2=1
instance (m:List Int) (p:Int):Decidable (vspr m p):=by unfold vspr; exact inferInstance
def vcol (m:List Int) (p:Int):Int:=if ¬ vvis p then m.getD 0 0 % 16 else if vspr m p then m.getD 3 0 % 16 else vcell m p
def vhit (m:List Int) (p:Int):Prop:=vvis p∧vspr m p∧vcell m p≠0
instance (m:List Int) (p:Int):Decidable (vhit m p):=by unfold vhit; exact inferInstance
structure VidOk (p h:Int) (m:List Int):Prop where
 pos:0≤p∧p < 2560
 hit:0≤h∧h < 2
 len:m.length=32
 mem:Bytes m
def vpos (p:Int) (i:Nat):Int:=(p+i) % 2560
def vhitN (m:List Int) (p h:Int):Nat→Int
 | 0=>h
 | i+1=>if vhit m (vpos p (i+1)) then 1 else vhitN m p h i
def vrounds (k:Int):Nat:=(if k > 5120 then 2560+k % 2560 else k).toNat
def NextOf (m:List Int) (p n:Int):Prop:=(n=100000∧∀ j:Nat,j < 2560→vcol m (vpos p (j+1))=vcol m p)∨(0≤n∧n < 2560∧(∀ j:Nat,(j:Int) < n→vcol m (vpos p (j+1))=vcol m p)∧vcol m (vpos p (n.toNat+1))≠vcol m p)
def vread (p h:Int) (m:List Int) (a:Int):Int:=if a=5 then p / 64 else if a=6 then p % 64 else if a=7 then h else m.getD a.toNat 0
end Go.Proofs.Ytdbbnlafkndcnaa.Calc
namespace Go.Proofs.Ytdbbnlafkndcnaa.Calc
structure Vo where
 p:Int
 v:Int
 r:Int
 c:Int
 f:Int
 w:Int
def Vo.list (x:Vo):List Int:=[x.p,x.v,x.r,x.c,x.f,x.w]
def Vo.Ok (x:Vo):Prop:=(0≤x.p∧x.p < 4096)∧(0≤x.v∧x.v < 16)∧(0≤x.r∧x.r < 256)∧(0≤x.c∧x.c < 4096)∧(0≤x.f∧x.f < 2)∧(0≤x.w∧x.w < 16384)
def Vo.pass (x:Vo) (k:Int):Vo where
 p:=x.p
 v:=if 0 < x.r∧0 < x.v then (if x.r * 64≤x.w+k then x.v - 1 else x.v) else x.v
 r:=x.r
 c:=if 0 < x.p then (if x.p≤x.c+k then 0 else x.c+k) else x.c
 f:=if 0 < x.p then (if x.p≤x.c+k then 1 - x.f else x.f) else x.f
 w:=if 0 < x.r∧0 < x.v then (if x.r * 64≤x.w+k then 0 else x.w+k) else x.w
def Vo.quiet (x:Vo):Int :=
 let a:=if 0 < x.p then min 100000 (max 1 (x.p - x.c) - 1) else 100000
 if 0 < x.r∧0 < x.v then min a (max 1 (x.r * 64 - x.w) - 1) else a
def Vo.ticks:Nat→Vo→Vo
 | 0,x=>x
 | n+1,x=>Vo.ticks n (x.pass 1)
theorem Vo.ticks_succ (n:Nat):∀ x:Vo,Vo.ticks (n+1) x=(Vo.ticks n x).pass 1:=by
 induction n with
 | zero=>intro x; rfl
 | succ n ih=>intro x; rw [Vo.ticks,ih]; rfl
theorem Vo.turns (P v:Int) (hP:0 < P∧P < 4096) (n:Nat):Vo.ticks n ⟨P,v,0,0,0,0⟩=⟨P,v,0,n % P,n / P % 2,0⟩:=by
 induction n with
 | zero=>simp [Vo.ticks]
 | succ n ih =>
  rw [Vo.ticks_succ,ih]
  unfold Vo.pass
  dsimp only
  have h1:=Int.emod_nonneg (n:Int) (show P≠0 by omega)
  have h2:=Int.emod_lt_of_pos (n:Int) hP.1
  have h3:=Int.emod_add_mul_ediv (n:Int) P
  have h4:((n+1:Nat):Int)=(n:Int) % P+1+P * ((n:Int) / P):=by omega
  by_cases h:P≤(n:Int) % P+1
  ·have e:((n+1:Nat):Int)=P * ((n:Int) / P+1):=by rw [h4,Int.mul_add]; omega
   have d1:((n+1:Nat):Int) % P=0:=by rw [e]; exact Int.mul_emod_right _ _
   have d2:((n+1:Nat):Int) / P=(n:Int) / P+1:=by rw [e]; exact Int.mul_ediv_cancel_left _ (by omega)
   rw [d1,d2]
   simp only [if_pos hP.1,if_pos h]
   congr 1
   omega
  ·have d1:((n+1:Nat):Int) % P=(n:Int) % P+1:=by
    rw [h4,Int.add_mul_emod_self_left]; exact Int.emod_eq_of_lt (by omega) (by omega)
   have d2:((n+1:Nat):Int) / P=(n:Int) / P:=by
    rw [h4,Int.add_mul_ediv_left _ _ (by omega),Int.ediv_eq_zero_of_lt (by omega) (by omega)]; omega
   rw [d1,d2]
   simp only [if_pos hP.1,if_neg h]
   rfl
theorem Vo.fades (R:Int) (hR:0 < R∧R < 256):∀ (n:Nat) (v:Int),0≤v→(n:Int)≤64 * R * v→Vo.ticks n ⟨0,v,R,0,0,0⟩=⟨0,v - n / (64 * R),R,0,0,n % (64 * R)⟩:=by
 intro n v hv hn
 induction n with
 | zero=>simp [Vo.ticks]
 | succ n ih =>
  rw [Vo.ticks_succ,ih (by omega)]
  unfold Vo.pass
  dsimp only
  obtain ⟨D,hD⟩:∃ D,64 * R=D:=⟨_,rfl⟩
  have hD1:0 < D:=by omega
  rw [hD] at hn ⊢
  have h1:=Int.emod_nonneg (n:Int) (show D≠0 by omega)
  have h2:=Int.emod_lt_of_pos (n:Int) hD1
  have h3:=Int.emod_add_mul_ediv (n:Int) D
  have h4:((n+1:Nat):Int)=(n:Int) % D+1+D * ((n:Int) / D):=by omega
  have hv1:0 < v - (n:Int) / D:=by
   have:(n:Int) / D < v:=Int.ediv_lt_of_lt_mul hD1 (by rw [Int.mul_comm]; omega)
   omega
  by_cases h:D≤(n:Int) % D+1
  ·have e:((n+1:Nat):Int)=D * ((n:Int) / D+1):=by rw [h4,Int.mul_add]; omega
   have d1:((n+1:Nat):Int) % D=0:=by rw [e]; exact Int.mul_emod_right _ _
   have d2:((n+1:Nat):Int) / D=(n:Int) / D+1:=by rw [e]; exact Int.mul_ediv_cancel_left _ (by omega)
   rw [d1,d2]
   have q0:¬ ((0:Int) < 0):=by decide
   have q1:0 < R∧0 < v - (n:Int) / D:=⟨hR.1,hv1⟩
   have q2:R * 64≤(n:Int) % D+1:=by omega
   simp only [if_neg q0,if_pos q1,if_pos q2]
   congr 1
   omega
  ·have d1:((n+1:Nat):Int) % D=(n:Int) % D+1:=by
    rw [h4,Int.add_mul_emod_self_left]; exact Int.emod_eq_of_lt (by omega) (by omega)
   have d2:((n+1:Nat):Int) / D=(n:Int) / D:=by
    rw [h4,Int.add_mul_ediv_left _ _ (by omega),Int.ediv_eq_zero_of_lt (by omega) (by omega)]; omega
   rw [d1,d2]
   have q0:¬ ((0:Int) < 0):=by decide
   have q1:0 < R∧0 < v - (n:Int) / D:=⟨hR.1,hv1⟩
   have q2:¬ R * 64≤(n:Int) % D+1:=by omega
   simp only [if_neg q0,if_pos q1,if_neg q2]
end Go.Proofs.Ytdbbnlafkndcnaa.Calc
